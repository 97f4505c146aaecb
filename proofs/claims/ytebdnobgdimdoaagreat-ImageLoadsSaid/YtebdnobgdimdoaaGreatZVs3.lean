/- verify.Shapes by its contract. -/
import Derived.Test.YtebdnobgdimdoaaGreatGV
import Derived.Test.YtebdnobgdimdoaaGreatGF
set_option linter.unusedVariables false
set_option linter.unusedSimpArgs false
namespace Go.Proofs.YtebdnobgdimdoaaGreat
open Go.RowKit
/-- What the step of an instruction does. -/
def StepAt (F : FuncId) (op : Int) : Prop := ∀ (p : List FnD) (ls : List SchD) (v : VE) (N : Nat) (w0 W : World) (k : Nat) (ins : InsD) (_ : Wk v N W k true ins) (_ : Bel w0 W) (_ : w0.heap.size ≤ N) (_ : Sl FnR 2 w0 v.A v.c p) (_ : p.length = v.n) (_ : Sl SchR 4 w0 v.Q v.cQ ls) (_ : ls.length = v.nl) (_ : progMay p = true) (_ : ls.all schMay = true) (_ : ls.length ≤ 4) (hk : k < ins.length) (s : ShD) (_ : Hid (sh0 ins[k] = s))
    (fn dst src : Int) (reg : Bool) (off imm : Int) (_ : U32 imm) (_ : Hid (mayB op fn dst src reg off imm = true)) (r : Option InsD) (_ : Hid (vStep p v.fn ls k ⟨op, fn, dst, src, reg, off, imm⟩ s ins = r)),
    Calls Tryz.prog F #[.pointer (some ⟨v.g, 0, none⟩), .agg #[.int .i64 op, .int .i64 fn, .int .i64 dst, .int .i64 src, .bool reg, .int .i64 off, .int .u32 imm]] W fun e w' => e = .returned (.tuple #[]) ∧ (∃ ins', Wk v N w' k r.isSome ins' ∧ (∀ x, r = some x → ins' = x)) ∧ Fr v N W w'
def stepF (op : Int) : FuncId := if op = 0 then 82 else if op = 1 then 83 else if op = 2 then 84 else if op = 3 then 85 else if op = 4 then 86 else if op = 5 then 87 else if op = 6 then 88 else 89
def StepOk (op : Int) : Prop := StepAt (stepF op) op
theorem step_alu : StepOk 0 := fun p ls v N w0 W k ins h _ _ _ _ _ _ _ _ _ hk s hsk fn dst src reg off imm him hm r hr => alu_any p ls v N W k ins h hk s hsk 0 fn dst src reg off imm him hm rfl r hr
theorem step_ctx : StepOk 2 := fun p ls v N w0 W k ins h _ _ _ _ _ _ _ _ _ hk s hsk fn dst src reg off imm him hm r hr => ctx_any p ls v N W k ins h hk s hsk 2 fn dst src reg off imm him hm rfl r hr
theorem step_load : StepOk 3 := fun p ls v N w0 W k ins h _ _ _ _ _ _ _ _ _ hk s hsk fn dst src reg off imm him hm r hr => load_any p ls v N W k ins h hk s hsk 3 fn dst src reg off imm him hm rfl r hr
theorem step_store : StepOk 4 := fun p ls v N w0 W k ins h _ _ _ _ _ _ _ _ _ hk s hsk fn dst src reg off imm him hm r hr => store_any p ls v N W k ins h hk s hsk 4 fn dst src reg off imm him hm rfl r hr
theorem step_exit : StepOk 7 := fun p ls v N w0 W k ins h _ _ _ _ _ _ _ _ _ hk s hsk fn dst src reg off imm him hm r hr => exit_any p ls v N W k ins h hk s hsk 7 fn dst src reg off imm him hm rfl r hr
theorem kind_at {op : Int} (h0 : 0 ≤ op) (h8 : op < 8) : Instr.findNow (.int .i64) (.int .i64 op) kindsE.toList 0 = some (some (op.toNat, .func (.func (stepF op)) #[] #[])) ∧ ∀ args w, (callFunc (stepF op) args).run Tryz.prog w = .ok (.enter (stepF op) args) w := by
  rcases (show op = 0 ∨ op = 1 ∨ op = 2 ∨ op = 3 ∨ op = 4 ∨ op = 5 ∨ op = 6 ∨ op = 7 by omega) with rfl | rfl | rfl | rfl | rfl | rfl | rfl | rfl
  · exact ⟨rfl, enters_of Tryz.func82 (by kernel_rfl) rfl⟩
  · exact ⟨rfl, enters_of Tryz.func83 (by kernel_rfl) rfl⟩
  · exact ⟨rfl, enters_of Tryz.func84 (by kernel_rfl) rfl⟩
  · exact ⟨rfl, enters_of Tryz.func85 (by kernel_rfl) rfl⟩
  · exact ⟨rfl, enters_of Tryz.func86 (by kernel_rfl) rfl⟩
  · exact ⟨rfl, enters_of Tryz.func87 (by kernel_rfl) rfl⟩
  · exact ⟨rfl, enters_of Tryz.func88 (by kernel_rfl) rfl⟩
  · exact ⟨rfl, enters_of Tryz.func89 (by kernel_rfl) rfl⟩
theorem insOk_none (ml : Nat) : insOk (List.replicate ml none) := fun s hs t ht => by
  rw [List.eq_of_mem_replicate hs] at ht
  cases ht
theorem wk_made5 {A : Option Addr} {n c fn : Nat} {Q : Option Addr} {nl cQ N : Nat} (W : World) (hN : W.heap.size = N) (v : VE) (ml : Nat) (hm : ml ≤ 64) (hv : v = ⟨A, n, c, fn, Q, nl, cQ, N + 1 + 1, N, N + 1, ml⟩) : Wk v N (((W.alloc (.cells (insC (List.replicate ml none)) 69)).alloc (.cells (insB (List.replicate ml none)) 4)).alloc (.cells (v.cells 0 true) 113)) 0 true (List.replicate ml none) := by
  subst hv
  subst hN
  refine ⟨?_, ?_, ?_, insOk_none ml, List.length_replicate, hm, by dsimp only; omega, by dsimp only; omega, by dsimp only; omega, by dsimp only; omega, by dsimp only; omega, by dsimp only; omega, by simp; omega⟩
  · have := Bk.new ((W.alloc (.cells (insC (List.replicate ml none)) 69)).alloc (.cells (insB (List.replicate ml none)) 4)) 113 ((⟨A, n, c, fn, Q, nl, cQ, W.heap.size + 1 + 1, W.heap.size, W.heap.size + 1, ml⟩ : VE).cells 0 true)
    rwa [World.size_alloc, World.size_alloc] at this
  · exact ((Bk.new W _ _).alloc _).alloc _
  · have := (Bk.new (W.alloc (.cells (insC (List.replicate ml none)) 69)) 4 (insB (List.replicate ml none))).alloc (.cells ((⟨A, n, c, fn, Q, nl, cQ, W.heap.size + 1 + 1, W.heap.size, W.heap.size + 1, ml⟩ : VE).cells 0 true) 113)
    rwa [World.size_alloc] at this
theorem wk_made8 {A : Option Addr} {n c fn : Nat} {Q : Option Addr} {nl cQ N : Nat} (W : World) (hN : W.heap.size = N) (v : VE) (ml : Nat) (hm : ml ≤ 64) (hv : v = ⟨A, n, c, fn, Q, nl, cQ, N + 1 + 1, N + 1, N, ml⟩) : Wk v N (((W.alloc (.cells (insB (List.replicate ml none)) 4)).alloc (.cells (insC (List.replicate ml none)) 69)).alloc (.cells (v.cells 0 true) 113)) 0 true (List.replicate ml none) := by
  subst hv
  subst hN
  refine ⟨?_, ?_, ?_, insOk_none ml, List.length_replicate, hm, by dsimp only; omega, by dsimp only; omega, by dsimp only; omega, by dsimp only; omega, by dsimp only; omega, by dsimp only; omega, by simp; omega⟩
  · have := Bk.new ((W.alloc (.cells (insB (List.replicate ml none)) 4)).alloc (.cells (insC (List.replicate ml none)) 69)) 113 ((⟨A, n, c, fn, Q, nl, cQ, W.heap.size + 1 + 1, W.heap.size + 1, W.heap.size, ml⟩ : VE).cells 0 true)
    rwa [World.size_alloc, World.size_alloc] at this
  · have := (Bk.new (W.alloc (.cells (insB (List.replicate ml none)) 4)) 69 (insC (List.replicate ml none))).alloc (.cells ((⟨A, n, c, fn, Q, nl, cQ, W.heap.size + 1 + 1, W.heap.size + 1, W.heap.size, ml⟩ : VE).cells 0 true) 113)
    rwa [World.size_alloc] at this
  · exact ((Bk.new W _ _).alloc _).alloc _
theorem vUpto_none {p : List FnD} {fn : Nat} {ls : List SchD} {l : List InstD} {a k : Nat} (h : vUpto p fn ls l a k = none) : ∀ m, k ≤ m → vUpto p fn ls l a m = none := by
  intro m hm
  induction m with
  | zero => obtain rfl : k = 0 := by omega
            exact h
  | succ m ih =>
    by_cases e : k = m + 1
    · subst e; exact h
    · rw [vUpto, ih (by omega)]
      rfl
theorem vTo_none {ml : Nat} (h : 0 < ml) (s : ShD) : vTo (List.replicate ml none) 0 s = some ((List.replicate ml none).set 0 (some s)) := by
  unfold vTo
  rw [dif_pos (by rw [List.length_replicate]; exact h)]
  simp
set_option maxHeartbeats 8000000 in
set_option maxRecDepth 100000 in
theorem shapes_any (A : Option Addr) (c n : Nat) (p : List FnD) (fn : Int) (Q : Option Addr) (nl cQ : Nat) (ls : List SchD) (w : World) (hp : Hid (Sl FnR 2 w A c p)) (hn : Hid (p.length = n)) (hls : Hid (Sl SchR 4 w Q cQ ls)) (hnl : Hid (ls.length = nl)) (r : Option InsD) (er : Int) (hr : Hid (vShapes p fn ls = (r, er)))
    (hS : Hid (progMay p = true → ∀ (k : Nat) (ins : InsD) (s : ShD), vUpto p fn.toNat ls ((p.map FnD.code).getD fn.toNat []) ((p.map FnD.args).getD fn.toNat 0).toNat k = some ins → k < ((p.map FnD.code).getD fn.toNat []).length → ins.getD k none = some s → StepOk (((p.map FnD.code).getD fn.toNat [])[k]!).op)) :
    Calls Tryz.prog 18 #[.agg #[.slice A n c], .int .i64 fn, .slice Q nl cQ] w fun e w' => (∃ vi vs, e = .returned (.tuple #[vi, vs, .int .i64 er]) ∧ ∀ ins, r = some ins → ∃ Bi Bs len, vi = .slice (some ⟨Bi, 0, none⟩) len len ∧ vs = .slice (some ⟨Bs, 0, none⟩) len len ∧ ins.length = len ∧ Bk w' Bi 69 (insC ins) ∧ Bk w' Bs 4 (insB ins)) ∧ Bel w w' := by
  have HB0 := Lib.hid ((Bel.refl w).alloc (.cells #[.slice A n c] 24))
  have KP0 := Lib.hid (Bk.new w 24 #[.slice A n c])
  obtain ⟨mb, hmb⟩ : ∃ mb, Hid (progMay p = mb) := ⟨_, Lib.hid rfl⟩
  have HRE := hr.out
  unfold vShapes at HRE
  go_enter Tryz.func18, Tryz.ntmps18
  go_wp2_with fail
  generalize w.alloc (.cells #[.slice A n c] 24) = W0 at *
  obtain ⟨g, hg⟩ : ∃ g, w.heap.size = g := ⟨_, rfl⟩
  rw [hg] at KP0
  simp only [hg]
  clear hg
  refine (progmay_any A c n p mb _ (hp.out.mono FnR.mono HB0.out) hn hmb).mono ?_
  rintro e W1 ⟨rfl, hb⟩
  have HB1 := Lib.hid (HB0.out.trans hb)
  have KP1 := Lib.hid (KP0.out.bel hb)
  have q0 := KP1.out.cell 0 (v := .slice A n c) rfl
  clear hb KP0 HB0
  cases mb
  · rw [if_neg (by rw [hmb.out]; simp)] at HRE
    obtain ⟨rfl, rfl⟩ := Prod.mk.inj HRE
    clear HRE
    go_wp2_with fail
    go_ret3
    exact ⟨⟨.slice none 0 0, .slice none 0 0, rfl, fun ins e => by cases e⟩, HB1.out⟩
  by_cases h4 : (4 : Int) < nl
  · rw [if_neg (by rintro ⟨-, h, -⟩; rw [hnl.out] at h; omega)] at HRE
    obtain ⟨rfl, rfl⟩ := Prod.mk.inj HRE
    clear HRE
    go_wp2_with fail
    go_ret3
    exact ⟨⟨.slice none 0 0, .slice none 0 0, rfl, fun ins e => by cases e⟩, HB1.out⟩
  obtain ⟨rb, hrb⟩ : ∃ rb, Hid (ls.any (fun x => !schMay x) = rb) := ⟨_, Lib.hid rfl⟩
  go_wp2_with fail
  refine (containsS_any Q cQ nl ls _ (hls.out.mono SchR.mono HB1.out) hnl rb hrb).mono ?_
  rintro e W2 ⟨rfl, hb⟩
  have HB1x := Lib.hid (HB1.out.trans hb)
  have KP2 := Lib.hid (KP1.out.bel hb)
  have q0 := KP2.out.cell 0 (v := .slice A n c) rfl
  clear hb HB1 KP1
  have HB1 := HB1x
  cases rb with
  | true =>
    rw [if_neg (by rintro ⟨-, -, h⟩; have h2 := hrb.out; rw [List.any_eq_true] at h2; obtain ⟨x, hx, hx2⟩ := h2; rw [List.all_eq_true.1 h x hx] at hx2; cases hx2)] at HRE
    obtain ⟨rfl, rfl⟩ := Prod.mk.inj HRE
    clear HRE
    go_wp2_with fail
    go_ret3
    exact ⟨⟨.slice none 0 0, .slice none 0 0, rfl, fun ins e => by cases e⟩, HB1.out⟩
  | false =>
  have HSM : Hid (ls.all schMay = true) := Lib.hid (by
    rw [List.all_eq_true]
    intro x hx
    have h2 := hrb.out
    rw [List.any_eq_false] at h2
    simpa using h2 x hx)
  have hl4 : ls.length ≤ 4 := by rw [hnl.out]; omega
  rw [if_pos ⟨hmb.out, hl4, HSM.out⟩] at HRE
  by_cases h1 : fn < 0
  · rw [if_neg (by omega)] at HRE
    obtain ⟨rfl, rfl⟩ := Prod.mk.inj HRE
    clear HRE
    go_wp2_with fail
    go_ret3
    exact ⟨⟨.slice none 0 0, .slice none 0 0, rfl, fun ins e => by cases e⟩, HB1.out⟩
  by_cases h2 : (n : Int) ≤ fn
  · rw [if_neg (by rw [hn.out]; omega)] at HRE
    obtain ⟨rfl, rfl⟩ := Prod.mk.inj HRE
    clear HRE
    go_wp2_with fail
    go_ret3
    exact ⟨⟨.slice none 0 0, .slice none 0 0, rfl, fun ins e => by cases e⟩, HB1.out⟩
  rw [if_pos (by rw [hn.out]; omega)] at HRE
  obtain ⟨j, rfl⟩ : ∃ j : Nat, fn = j := ⟨fn.toNat, by omega⟩
  have hjn : j < n := by omega
  have hjn2 : (j : Int) < n := by omega
  have hj0 : (0 : Int) ≤ j := by omega
  have hjL : j < p.length := by rw [hn.out]; exact hjn
  obtain ⟨l, hl⟩ : ∃ l, Hid ((p[j]).code = l) := ⟨_, Lib.hid rfl⟩
  obtain ⟨ml, HLM⟩ : ∃ ml, Hid (l.length = ml) := ⟨_, Lib.hid rfl⟩
  obtain ⟨hff, h0a, h4a⟩ := fn_fine hmb.out hjL
  obtain ⟨hml0, hm64, hok⟩ := crsMay_facts hff
  obtain ⟨a, ha⟩ : ∃ a : Nat, Hid ((p[j]).args = a) := ⟨(p[j]).args.toNat, Lib.hid (by omega)⟩
  have ha4 : a ≤ 4 := by have := ha.out; omega
  rw [hl.out] at hml0 hm64 hok
  rw [HLM.out] at hml0 hm64
  have hok := Lib.hid hok
  have eC : (p.map FnD.code).getD j [] = l := by rw [← hl.out, List.getD_eq_getElem?_getD, List.getElem?_map, List.getElem?_eq_getElem hjL]; rfl
  have eA : ((p.map FnD.args).getD j 0).toNat = a := by
    have : (p.map FnD.args).getD j 0 = (p[j]).args := by rw [List.getD_eq_getElem?_getD, List.getElem?_map, List.getElem?_eq_getElem hjL]; rfl
    rw [this, ha.out]
    rfl
  have HSt := hS.out hmb.out
  rw [show ((j : Int)).toNat = j from rfl, eC, eA] at HRE HSt
  have HSt := Lib.hid HSt
  have HRE2 : Hid ((match vUpto p j ls l a ml with | some ins => ((some ins : Option InsD), (0 : Int)) | none => (none, 8)) = (r, er)) := Lib.hid (by rw [← HLM.out]; exact HRE)
  clear HRE hS h1 eC eA h0a h4a hff
  obtain ⟨b, o, rfl⟩ := hp.out.addr (by omega)
  have HP2 := hp.out.mono FnR.mono HB1.out
  obtain ⟨Al, cl, -, d1, -⟩ := fn_cells HP2 j hjL
  obtain ⟨Alx, clx, -, d1x, hsl⟩ := fn_cells hp.out j hjL
  have HB2 := HB1
  rw [hl.out] at d1 d1x hsl
  rw [HLM.out] at d1 d1x
  have hAA := HB1.out.cell d1x
  rw [d1] at hAA
  simp only [Option.some.injEq, Value.slice.injEq, true_and] at hAA
  obtain ⟨rfl, rfl⟩ := hAA
  obtain ⟨bl, ol, rfl⟩ := hsl.addr (by rw [HLM.out]; exact hml0)
  have HSL := Lib.hid hsl
  clear d1x hsl HP2 HB1 HB1x
  have hm1 := made_shapes ml hm64
  have hm2 := made_bools ml hm64
  go_wp2_with fail
  obtain ⟨N, hN⟩ : ∃ N, W2.drew.heap.size = N := ⟨_, rfl⟩
  have hN2 : W2.heap.size = N := hN
  have SD := (Bel.refl W2).drew
  have M0 := fun (w' : World) (h : Bel W2 w') => h.cell q0
  refine wp_region_T (fun w' => Bel W2 w') (fun _ => false) (by kernel_rfl) ?_
  refine wpAnyU_take (i := 0) (v := ?v0) rfl (by kernel_rfl) (by kernel_rfl) (by kernel_rfl) (by kernel_rfl) (fun _ _ _ h => h) ?hy0 SD ?rest0
  case hy0 => first | (refine Or.inl ⟨by rfl, ?_⟩; (intro w' hSw; go_simp) <;> with_reducible rfl) | (refine Or.inr ⟨by rfl, ?_⟩; with_reducible rfl)
  try simp only [List.getElem_toArray, List.getElem_cons_zero, List.getElem_cons_succ, Act.put, List.setIfInBounds_toArray, List.set_cons_zero, List.set_cons_succ]
  refine wpAnyU_take (i := 1) (v := ?v1) rfl (by kernel_rfl) (by kernel_rfl) (by kernel_rfl) (by kernel_rfl) (fun _ _ _ h => h) ?hy1 SD ?rest1
  case hy1 => first | (refine Or.inl ⟨by rfl, ?_⟩; (intro w' hSw; go_simp) <;> with_reducible rfl) | (refine Or.inr ⟨by rfl, ?_⟩; with_reducible rfl)
  try simp only [List.getElem_toArray, List.getElem_cons_zero, List.getElem_cons_succ, Act.put, List.setIfInBounds_toArray, List.set_cons_zero, List.set_cons_succ]
  refine wpAnyU_take (i := 2) (v := ?v2) rfl (by kernel_rfl) (by kernel_rfl) (by kernel_rfl) (by kernel_rfl) (fun _ _ _ h => h) ?hy2 SD ?rest2
  case hy2 => first | (refine Or.inl ⟨by rfl, ?_⟩; (intro w' hSw; go_simp) <;> with_reducible rfl) | (refine Or.inr ⟨by rfl, ?_⟩; with_reducible rfl)
  try simp only [List.getElem_toArray, List.getElem_cons_zero, List.getElem_cons_succ, Act.put, List.setIfInBounds_toArray, List.set_cons_zero, List.set_cons_succ]
  refine wpAnyU_take (i := 3) (v := ?v3) rfl (by kernel_rfl) (by kernel_rfl) (by kernel_rfl) (by kernel_rfl) (fun _ _ _ h => h) ?hy3 SD ?rest3
  case hy3 => first | (refine Or.inl ⟨by rfl, ?_⟩; (intro w' hSw; go_simp) <;> with_reducible rfl) | (refine Or.inr ⟨by rfl, ?_⟩; with_reducible rfl)
  try simp only [List.getElem_toArray, List.getElem_cons_zero, List.getElem_cons_succ, Act.put, List.setIfInBounds_toArray, List.set_cons_zero, List.set_cons_succ]
  refine wpAnyU_take (i := 4) (v := ?v4) rfl (by kernel_rfl) (by kernel_rfl) (by kernel_rfl) (by kernel_rfl) (fun _ _ _ h => h) ?hy4 SD ?rest4
  case hy4 => first | (refine Or.inl ⟨by rfl, ?_⟩; (intro w' hSw; go_simp) <;> with_reducible rfl) | (refine Or.inr ⟨by rfl, ?_⟩; with_reducible rfl)
  try simp only [List.getElem_toArray, List.getElem_cons_zero, List.getElem_cons_succ, Act.put, List.setIfInBounds_toArray, List.set_cons_zero, List.set_cons_succ]
  refine wpAnyU_take (i := 6) (v := ?v6) rfl (by kernel_rfl) (by kernel_rfl) (by kernel_rfl) (by kernel_rfl) (fun _ _ _ h => h) ?hy6 SD ?rest6
  case hy6 => first | (refine Or.inl ⟨by rfl, ?_⟩; (intro w' hSw; go_simp) <;> with_reducible rfl) | (refine Or.inr ⟨by rfl, ?_⟩; with_reducible rfl)
  try simp only [List.getElem_toArray, List.getElem_cons_zero, List.getElem_cons_succ, Act.put, List.setIfInBounds_toArray, List.set_cons_zero, List.set_cons_succ]
  refine wpAnyU_take (i := 7) (v := ?v7) rfl (by kernel_rfl) (by kernel_rfl) (by kernel_rfl) (by kernel_rfl) (fun _ _ _ h => h) ?hy7 SD ?rest7
  case hy7 => first | (refine Or.inl ⟨by rfl, ?_⟩; (intro w' hSw; go_simp) <;> with_reducible rfl) | (refine Or.inr ⟨by rfl, ?_⟩; with_reducible rfl)
  try simp only [List.getElem_toArray, List.getElem_cons_zero, List.getElem_cons_succ, Act.put, List.setIfInBounds_toArray, List.set_cons_zero, List.set_cons_succ]
  refine wpAnyT_two (i := 5) (j := 8) (by kernel_rfl) rfl rfl (fun K hK => ?_) (fun K hK => ?_)
  · go_simp
    refine hK.out _ _ (fun _ => ((Bel.refl W2).drew.alloc _)) ?_
    clear hK K
    try simp only [List.getElem_toArray, List.getElem_cons_zero, List.getElem_cons_succ, Act.put, List.setIfInBounds_toArray, List.set_cons_zero, List.set_cons_succ]
    refine wpAnyT_one (i := 8) (by kernel_rfl) rfl (fun K hK => ?_)
    go_simp
    refine hK.out _ _ (fun _ => (((Bel.refl W2).drew.alloc _).alloc _)) ?_
    clear hK K
    try simp only [List.getElem_toArray, List.getElem_cons_zero, List.getElem_cons_succ, Act.put, List.setIfInBounds_toArray, List.set_cons_zero, List.set_cons_succ]
    refine wpAnyU_take (i := 9) (v := ?v9a) rfl (by kernel_rfl) (by kernel_rfl) (by kernel_rfl) (by kernel_rfl) (fun _ _ _ h => h) ?hy9a (((Bel.refl W2).drew.alloc _).alloc _) ?rest9a
    case hy9a => first | (refine Or.inl ⟨by rfl, ?_⟩; (intro w' hSw; go_simp) <;> with_reducible rfl) | (refine Or.inr ⟨by rfl, ?_⟩; with_reducible rfl)
    try simp only [List.getElem_toArray, List.getElem_cons_zero, List.getElem_cons_succ, Act.put, List.setIfInBounds_toArray, List.set_cons_zero, List.set_cons_succ]
    refine wpAnyT_one (i := 10) (by kernel_rfl) rfl (fun K hK => ?_)
    go_simp
    refine hK.out _ _ (fun _ => ((((Bel.refl W2).drew.alloc _).alloc _).alloc _)) ?_
    clear hK K
    try simp only [List.getElem_toArray, List.getElem_cons_zero, List.getElem_cons_succ, Act.put, List.setIfInBounds_toArray, List.set_cons_zero, List.set_cons_succ]
    refine wpAnyU_take (i := 11) (v := ?v11a) rfl (by kernel_rfl) (by kernel_rfl) (by kernel_rfl) (by kernel_rfl) (fun _ _ _ h => h) ?hy11a ((((Bel.refl W2).drew.alloc _).alloc _).alloc _) ?rest11a
    case hy11a => first | (refine Or.inl ⟨by rfl, ?_⟩; (intro w' hSw; go_simp) <;> with_reducible rfl) | (refine Or.inr ⟨by rfl, ?_⟩; with_reducible rfl)
    try simp only [List.getElem_toArray, List.getElem_cons_zero, List.getElem_cons_succ, Act.put, List.setIfInBounds_toArray, List.set_cons_zero, List.set_cons_succ]
    refine wpAnyT_done (by kernel_rfl) ?_ _
    refine NoPanic.normal ?_
    have WK : Wk (⟨some ⟨b, o, none⟩, n, c, j, Q, nl, cQ, N + 1 + 1, N, N + 1, ml⟩ : VE) N ((((W2.alloc (.cells (insC (List.replicate ml none)) 69)).alloc (.cells (insB (List.replicate ml none)) 4)).alloc (.cells #[.slice (some ⟨b, o, none⟩) n c, .int .i64 j, .slice Q nl cQ, .slice (some ⟨N, 0, none⟩) ml ml, .slice (some ⟨N + 1, 0, none⟩) ml ml, .int .i64 0, .bool true] 113)).drew) 0 true (List.replicate ml none) := (wk_made5 W2 hN2 (⟨some ⟨b, o, none⟩, n, c, j, Q, nl, cQ, N + 1 + 1, N, N + 1, ml⟩ : VE) ml hm64 rfl).bel (Bel.refl _).drew
    have HBW : Bel w ((((W2.alloc (.cells (insC (List.replicate ml none)) 69)).alloc (.cells (insB (List.replicate ml none)) 4)).alloc (.cells #[.slice (some ⟨b, o, none⟩) n c, .int .i64 j, .slice Q nl cQ, .slice (some ⟨N, 0, none⟩) ml ml, .slice (some ⟨N + 1, 0, none⟩) ml ml, .int .i64 0, .bool true] 113)).drew) := (((HB2.out.alloc _).alloc _).alloc _).drew
    have KPW := KP2.out.bel (((((Bel.refl W2).alloc (.cells (insC (List.replicate ml none)) 69)).alloc (.cells (insB (List.replicate ml none)) 4)).alloc (.cells #[.slice (some ⟨b, o, none⟩) n c, .int .i64 j, .slice Q nl cQ, .slice (some ⟨N, 0, none⟩) ml ml, .slice (some ⟨N + 1, 0, none⟩) ml ml, .int .i64 0, .bool true] 113)).drew)
    generalize (((W2.alloc (.cells (insC (List.replicate ml none)) 69)).alloc (.cells (insB (List.replicate ml none)) 4)).alloc (.cells #[.slice (some ⟨b, o, none⟩) n c, .int .i64 j, .slice Q nl cQ, .slice (some ⟨N, 0, none⟩) ml ml, .slice (some ⟨N + 1, 0, none⟩) ml ml, .int .i64 0, .bool true] 113)).drew = W3 at *
    have HP3 := Lib.hid (hp.out.mono FnR.mono HBW)
    have HL3 := Lib.hid (hls.out.mono SchR.mono HBW)
    have hNW : w.heap.size ≤ N := by rw [← hN]; exact HB2.out.size
    have HBW := Lib.hid HBW
    have q3 := KPW.cell 0 (v := .slice (some ⟨b, o, none⟩) n c) rfl
    obtain ⟨Al3, cl3, e0, -, -⟩ := fn_cells HP3.out j hjL
    rw [ha.out] at e0
    have WK := Lib.hid WK
    clear KPW hN
    go_wp2_with fail
    refine (shnew_any a ha4 _).mono ?_
    rintro e w4 ⟨rfl, hb4⟩
    have HB4 := Lib.hid (HBW.out.trans (hb4.alloc (.cells (shC (shNew a)) 69)))
    have WK4 := Lib.hid (WK.out.bel (hb4.alloc (.cells (shC (shNew a)) 69)))
    have HL := (Bk.new w4 69 (shC (shNew a))).load
    clear hb4 q3 e0
    go_wp2_with (first | (refine at_storeN (ty := 69) (shC (shNew a)) (by rfl) (by rfl) (by simp) info_shape rfl (shC_one _) ?_) | (refine at_loadV (by rfl) HL ?_))
    refine (wto_any (⟨some ⟨b, o, none⟩, n, c, j, Q, nl, cQ, N + 1 + 1, N, N + 1, ml⟩ : VE) N _ 0 true (List.replicate ml none) WK4.out 0 (shNew a) (shNew_ok a) (some ((List.replicate ml none).set 0 (some (shNew a)))) (Lib.hid (vTo_none hml0 _))).mono ?_
    rintro e w5 ⟨rfl, hw5, hf5⟩
    have HB5 := Lib.hid (hf5.toBel HB4.out hNW)
    have WK5 := Lib.hid hw5
    clear hw5 hf5 HL
    go_wp2_with fail
    refine (kinds_any _).mono ?_
    rintro e w6 ⟨rfl, hw6⟩
    obtain ⟨gm, hgm⟩ : ∃ gm, w5.heap.size = gm := ⟨_, rfl⟩
    have HM : Hid (w6.heap[gm]? = some (.map kindsE 8)) := Lib.hid (by rw [hw6, ← hgm]; exact heap_alloc_last w5 _)
    have HB6 : Hid (Bel w w6) := Lib.hid (by rw [hw6]; exact HB5.out.alloc _)
    have WK6 : Hid (Wk (⟨some ⟨b, o, none⟩, n, c, j, Q, nl, cQ, N + 1 + 1, N, N + 1, ml⟩ : VE) N w6 0 true ((List.replicate ml none).set 0 (some (shNew a)))) := Lib.hid (by
      have := WK5.out.bel ((Bel.refl w5).alloc (.map kindsE 8))
      rw [hw6]
      simpa using this)
    have HG : (⟨some ⟨b, o, none⟩, n, c, j, Q, nl, cQ, N + 1 + 1, N, N + 1, ml⟩ : VE).g < gm ∧ (⟨some ⟨b, o, none⟩, n, c, j, Q, nl, cQ, N + 1 + 1, N, N + 1, ml⟩ : VE).Bi < gm ∧ (⟨some ⟨b, o, none⟩, n, c, j, Q, nl, cQ, N + 1 + 1, N, N + 1, ml⟩ : VE).Bs < gm := by
      rw [← hgm]
      exact ⟨WK5.out.w.lt, WK5.out.i.lt, WK5.out.s.lt⟩
    dsimp only at HG
    rw [hgm]
    clear hw6 hgm
    go_wp2_with fail
    go_loopw [66] (fun kv wr => ∃ (k : Nat) (kp : Nat) (insK : InsD), kv = .int .i64 k ∧ k ≤ ml ∧ Hid (vUpto p j ls l a k = some insK) ∧ Hid (Wk (⟨some ⟨b, o, none⟩, n, c, j, Q, nl, cQ, N + 1 + 1, N, N + 1, ml⟩ : VE) N wr kp true insK) ∧ Hid (Bel w wr) ∧ Hid (wr.heap[gm]? = some (.map kindsE 8))) (fun kv _ => ml - (intOf kv).toNat)
    case atStart => exact ⟨0, 0, _, rfl, Nat.zero_le _, Lib.hid (by rw [← HLM.out]; rfl), WK6, HB6, HM⟩
    case round =>
      clear WK6 HB6 HM WK5 HB5 WK4 HB4 WK HBW HP3 HL3
      obtain ⟨k, kp, insK, rfl, hkm, HU, WKr, HBr, HMr⟩ := hrel
      have w3 := WKr.out.w.cell 3 (v := .slice (some ⟨(⟨some ⟨b, o, none⟩, n, c, j, Q, nl, cQ, N + 1 + 1, N, N + 1, ml⟩ : VE).Bi, 0, none⟩) ml ml) rfl
      have w4 := WKr.out.w.cell 4 (v := .slice (some ⟨(⟨some ⟨b, o, none⟩, n, c, j, Q, nl, cQ, N + 1 + 1, N, N + 1, ml⟩ : VE).Bs, 0, none⟩) ml ml) rfl
      have w5 := WKr.out.w.cell 5 (v := .int .i64 kp) rfl
      have w6 := WKr.out.w.cell 6 (v := .bool true) rfl
      have w5f := WKr.out.w.frozen 5
      have hgl := WKr.out.w.lt
      have hbl := WKr.out.s.lt
      dsimp only at w3 w4 w5 w6 w5f hgl hbl
      by_cases hke : k = ml
      · subst hke
        have hre := HRE2.out
        rw [HU.out] at hre
        obtain ⟨rfl, rfl⟩ := Prod.mk.inj hre
        clear hre
        go_wp2_with fail
        have SX : Bel wr wr.drew := (Bel.refl wr).drew
        have X3 := fun (w' : World) (h : Bel wr w') => h.cell w3
        have X4 := fun (w' : World) (h : Bel wr w') => h.cell w4
        have WKx := Lib.hid (WKr.out.bel SX)
        have HBx := Lib.hid (HBr.out.trans SX)
        clear w3 w4 w5 w6 w5f
        refine wp_region_T (fun w' => Bel wr w') (fun _ => false) (by kernel_rfl) ?_
        refine wpAnyU_take (i := 0) (v := ?v0xa) rfl (by kernel_rfl) (by kernel_rfl) (by kernel_rfl) (by kernel_rfl) (fun _ _ _ h => h) ?hy0xa SX ?rest0xa
        case hy0xa => first | (refine Or.inl ⟨by rfl, ?_⟩; (intro w' hSw; go_simp) <;> with_reducible rfl) | (refine Or.inr ⟨by rfl, ?_⟩; with_reducible rfl)
        try simp only [List.getElem_toArray, List.getElem_cons_zero, List.getElem_cons_succ, Act.put, List.setIfInBounds_toArray, List.set_cons_zero, List.set_cons_succ]
        refine wpAnyU_take (i := 1) (v := ?v1xa) rfl (by kernel_rfl) (by kernel_rfl) (by kernel_rfl) (by kernel_rfl) (fun _ _ _ h => h) ?hy1xa SX ?rest1xa
        case hy1xa => first | (refine Or.inl ⟨by rfl, ?_⟩; (intro w' hSw; go_simp) <;> with_reducible rfl) | (refine Or.inr ⟨by rfl, ?_⟩; with_reducible rfl)
        try simp only [List.getElem_toArray, List.getElem_cons_zero, List.getElem_cons_succ, Act.put, List.setIfInBounds_toArray, List.set_cons_zero, List.set_cons_succ]
        refine wpAnyU_take (i := 2) (v := ?v2xa) rfl (by kernel_rfl) (by kernel_rfl) (by kernel_rfl) (by kernel_rfl) (fun _ _ _ h => h) ?hy2xa SX ?rest2xa
        case hy2xa => first | (refine Or.inl ⟨by rfl, ?_⟩; (intro w' hSw; go_simp) <;> with_reducible rfl) | (refine Or.inr ⟨by rfl, ?_⟩; with_reducible rfl)
        try simp only [List.getElem_toArray, List.getElem_cons_zero, List.getElem_cons_succ, Act.put, List.setIfInBounds_toArray, List.set_cons_zero, List.set_cons_succ]
        refine wpAnyU_take (i := 3) (v := ?v3xa) rfl (by kernel_rfl) (by kernel_rfl) (by kernel_rfl) (by kernel_rfl) (fun _ _ _ h => h) ?hy3xa SX ?rest3xa
        case hy3xa => first | (refine Or.inl ⟨by rfl, ?_⟩; (intro w' hSw; go_simp) <;> with_reducible rfl) | (refine Or.inr ⟨by rfl, ?_⟩; with_reducible rfl)
        try simp only [List.getElem_toArray, List.getElem_cons_zero, List.getElem_cons_succ, Act.put, List.setIfInBounds_toArray, List.set_cons_zero, List.set_cons_succ]
        refine wpAnyU_take (i := 4) (v := ?v4xa) rfl (by kernel_rfl) (by kernel_rfl) (by kernel_rfl) (by kernel_rfl) (fun _ _ _ h => h) ?hy4xa SX ?rest4xa
        case hy4xa => first | (refine Or.inl ⟨by rfl, ?_⟩; (intro w' hSw; go_simp) <;> with_reducible rfl) | (refine Or.inr ⟨by rfl, ?_⟩; with_reducible rfl)
        try simp only [List.getElem_toArray, List.getElem_cons_zero, List.getElem_cons_succ, Act.put, List.setIfInBounds_toArray, List.set_cons_zero, List.set_cons_succ]
        refine wpAnyU_take (i := 5) (v := ?v5xa) rfl (by kernel_rfl) (by kernel_rfl) (by kernel_rfl) (by kernel_rfl) (fun _ _ _ h => h) ?hy5xa SX ?rest5xa
        case hy5xa => first | (refine Or.inl ⟨by rfl, ?_⟩; (intro w' hSw; go_simp) <;> with_reducible rfl) | (refine Or.inr ⟨by rfl, ?_⟩; with_reducible rfl)
        try simp only [List.getElem_toArray, List.getElem_cons_zero, List.getElem_cons_succ, Act.put, List.setIfInBounds_toArray, List.set_cons_zero, List.set_cons_succ]
        refine wpAnyU_take (i := 6) (v := ?v6xa) rfl (by kernel_rfl) (by kernel_rfl) (by kernel_rfl) (by kernel_rfl) (fun _ _ _ h => h) ?hy6xa SX ?rest6xa
        case hy6xa => first | (refine Or.inl ⟨by rfl, ?_⟩; (intro w' hSw; go_simp) <;> with_reducible rfl) | (refine Or.inr ⟨by rfl, ?_⟩; with_reducible rfl)
        try simp only [List.getElem_toArray, List.getElem_cons_zero, List.getElem_cons_succ, Act.put, List.setIfInBounds_toArray, List.set_cons_zero, List.set_cons_succ]
        refine wpAnyU_take (i := 7) (v := ?v7xa) rfl (by kernel_rfl) (by kernel_rfl) (by kernel_rfl) (by kernel_rfl) (fun _ _ _ h => h) ?hy7xa SX ?rest7xa
        case hy7xa => first | (refine Or.inl ⟨by rfl, ?_⟩; (intro w' hSw; go_simp) <;> with_reducible rfl) | (refine Or.inr ⟨by rfl, ?_⟩; with_reducible rfl)
        try simp only [List.getElem_toArray, List.getElem_cons_zero, List.getElem_cons_succ, Act.put, List.setIfInBounds_toArray, List.set_cons_zero, List.set_cons_succ]
        refine wpAnyU_take (i := 8) (v := ?v8xa) rfl (by kernel_rfl) (by kernel_rfl) (by kernel_rfl) (by kernel_rfl) (fun _ _ _ h => h) ?hy8xa SX ?rest8xa
        case hy8xa => first | (refine Or.inl ⟨by rfl, ?_⟩; (intro w' hSw; go_simp) <;> with_reducible rfl) | (refine Or.inr ⟨by rfl, ?_⟩; with_reducible rfl)
        try simp only [List.getElem_toArray, List.getElem_cons_zero, List.getElem_cons_succ, Act.put, List.setIfInBounds_toArray, List.set_cons_zero, List.set_cons_succ]
        refine wpAnyU_take (i := 9) (v := ?v9xa) rfl (by kernel_rfl) (by kernel_rfl) (by kernel_rfl) (by kernel_rfl) (fun _ _ _ h => h) ?hy9xa SX ?rest9xa
        case hy9xa => first | (refine Or.inl ⟨by rfl, ?_⟩; (intro w' hSw; go_simp) <;> with_reducible rfl) | (refine Or.inr ⟨by rfl, ?_⟩; with_reducible rfl)
        try simp only [List.getElem_toArray, List.getElem_cons_zero, List.getElem_cons_succ, Act.put, List.setIfInBounds_toArray, List.set_cons_zero, List.set_cons_succ]
        refine wpAnyU_take (i := 10) (v := ?v10xa) rfl (by kernel_rfl) (by kernel_rfl) (by kernel_rfl) (by kernel_rfl) (fun _ _ _ h => h) ?hy10xa SX ?rest10xa
        case hy10xa => first | (refine Or.inl ⟨by rfl, ?_⟩; (intro w' hSw; go_simp) <;> with_reducible rfl) | (refine Or.inr ⟨by rfl, ?_⟩; with_reducible rfl)
        try simp only [List.getElem_toArray, List.getElem_cons_zero, List.getElem_cons_succ, Act.put, List.setIfInBounds_toArray, List.set_cons_zero, List.set_cons_succ]
        refine wpAnyT_done (by kernel_rfl) ?_ _
        refine NoPanic.normal ?_
        go_wp2_with fail
        go_ret3
        exact ⟨⟨_, _, rfl, fun ins e => by cases e; exact ⟨_, _, k, rfl, rfl, WKx.out.len, WKx.out.i, WKx.out.s⟩⟩, HBx.out⟩
      · have hk1 : k < ml := by omega
        have hk2 : (k : Int) < ml := by omega
        have k0 : 0 ≤ (k : Int) := by omega
        have ek : IntKind.i64.wrap ((k : Int) + 1) = (k : Int) + 1 := wrap_i64 (by omega) (by omega)
        have hkl : k < l.length := by rw [HLM.out]; exact hk1
        have hlK : insK.length = ml := WKr.out.len
        have hki : k < insK.length := by omega
        have hsr := HSL.out.mono InstR.mono HBr.out
        have hic := inst_cells hsr k hkl
        have hxw : (l[k]).Wf := by
          obtain ⟨_, _, _, _, _, ⟨-, hxw⟩, -⟩ := hsr.get k hkl
          exact hxw
        have HOK := Lib.hid (hok.out k hkl)
        obtain ⟨x, HX⟩ : ∃ x, Hid (l[k]! = x) := ⟨_, Lib.hid rfl⟩
        have hx2 : l[k] = x := by rw [← getElem!_pos l k hkl]; exact HX.out
        rw [hx2] at hxw
        rw [HX.out] at hic HOK
        have HXW := Lib.hid hxw
        obtain ⟨op, fn, dst, src, reg, off, imm⟩ := x
        have HMB : Hid (mayB op fn dst src reg off imm = true) := Lib.hid HOK.out
        obtain ⟨⟨hop0, hop8⟩, -⟩ := of_decide_eq_true HMB.out
        have c0 := hic 0 (.int .i64 op) rfl
        have c1 := hic 1 (.int .i64 fn) rfl
        have c2 := hic 2 (.int .i64 dst) rfl
        have c3 := hic 3 (.int .i64 src) rfl
        have c4 := hic 4 (.bool reg) rfl
        have c5 := hic 5 (.int .i64 off) rfl
        have c6 := hic 6 (.int .u32 imm) rfl
        rw [Nat.add_zero] at c0
        clear hic hsr hke hx2 hxw
        obtain ⟨q, hq⟩ : ∃ q, Hid (insK[k] = q) := ⟨_, Lib.hid rfl⟩
        have hbk := WKr.out.s.cell k (insB_get insK hki)
        dsimp only at hbk
        rw [hq.out] at hbk
        have hgd : insK.getD k none = q := by
          rw [List.getD_eq_getElem?_getD, List.getElem?_eq_getElem hki]
          exact hq.out
        have WKp := WKr.out.place k
        have HBp := HBr.out.setCell (p := ⟨(⟨some ⟨b, o, none⟩, n, c, j, Q, nl, cQ, N + 1 + 1, N, N + 1, ml⟩ : VE).g, 5, none⟩) (Nat.le_trans hNW WKr.out.ng) (.int .i64 k)
        have hMp : (wr.setCell ⟨(⟨some ⟨b, o, none⟩, n, c, j, Q, nl, cQ, N + 1 + 1, N, N + 1, ml⟩ : VE).g, 5, none⟩ (.int .i64 k)).heap[gm]? = some (.map kindsE 8) := (heap_setCell_other wr _ gm _ (by dsimp only; omega)).trans HMr.out
        have WKa := Lib.hid (WKp.bel ((Bel.refl _).alloc (.cells #[.int .i64 op, .int .i64 fn, .int .i64 dst, .int .i64 src, .bool reg, .int .i64 off, .int .u32 imm] 95)))
        have HBb := Lib.hid (HBp.alloc (.cells #[.int .i64 op, .int .i64 fn, .int .i64 dst, .int .i64 src, .bool reg, .int .i64 off, .int .u32 imm] 95))
        have HMa : Hid (((wr.setCell ⟨(⟨some ⟨b, o, none⟩, n, c, j, Q, nl, cQ, N + 1 + 1, N, N + 1, ml⟩ : VE).g, 5, none⟩ (.int .i64 k)).alloc (.cells #[.int .i64 op, .int .i64 fn, .int .i64 dst, .int .i64 src, .bool reg, .int .i64 off, .int .u32 imm] 95)).heap[gm]? = some (.map kindsE 8)) := Lib.hid (((Bel.refl _).alloc (.cells #[.int .i64 op, .int .i64 fn, .int .i64 dst, .int .i64 src, .bool reg, .int .i64 off, .int .u32 imm] 95)).out.block gm (Array.getElem?_eq_some_iff.1 hMp).1 |>.trans hMp)
        clear WKp HBp hMp
        cases q with
        | none =>
          simp only [Option.isSome_none] at hbk
          have HU2 : Hid (vUpto p j ls l a (k + 1) = some insK) := Lib.hid (by
            rw [vUpto, HU.out]
            simp only [Option.bind_some, hgd])
          clear hgd
          go_wp2
          go_roundw
          case rel => exact ⟨k + 1, k, insK, by simp, by omega, HU2, WKa, HBb, HMa⟩
          case measure => simp [intOf]; omega
        | some s =>
          simp only [Option.isSome_some] at hbk
          obtain ⟨hfn, hen⟩ := kind_at hop0 hop8
          have hlk := klook HMa.out op _ hfn
          have hst := HSt.out k insK s HU.out hkl hgd
          rw [HX.out] at hst
          have HST := Lib.hid hst
          obtain ⟨F, hF⟩ : ∃ F, stepF op = F := ⟨_, rfl⟩
          have HSF : Hid (StepAt F op) := Lib.hid (by rw [← hF]; exact hst)
          rw [hF] at hlk hen
          obtain ⟨rs, hrs⟩ : ∃ rs, Hid (vStep p j ls k ⟨op, fn, dst, src, reg, off, imm⟩ s insK = rs) := ⟨_, Lib.hid rfl⟩
          have HU2 : Hid (vUpto p j ls l a (k + 1) = rs) := Lib.hid (by
            rw [vUpto, HU.out]
            simp only [Option.bind_some, hgd, HX.out]
            exact hrs.out)
          clear hgd hst hF hfn
          go_wp2_with fail
          refine (HSF.out p ls (⟨some ⟨b, o, none⟩, n, c, j, Q, nl, cQ, N + 1 + 1, N, N + 1, ml⟩ : VE) N w _ k insK WKa.out HBb.out hNW hp.out hn.out hls.out hnl.out hmb.out HSM.out hl4 hki s (Lib.hid (by rw [hq.out]; rfl)) fn dst src reg off imm HXW.out.imm HMB rs hrs).mono ?_
          rintro e w7 ⟨rfl, ⟨ins2, hw7, hi7⟩, hf7⟩
          have HB7 := Lib.hid (hf7.toBel HBb.out hNW)
          have HM7 : Hid (w7.heap[gm]? = some (.map kindsE 8)) := Lib.hid ((hf7.other gm (Array.getElem?_eq_some_iff.1 HMa.out).1 (by dsimp only; omega) (by dsimp only; omega) (by dsimp only; omega)).trans HMa.out)
          have HW7 := Lib.hid hw7
          have d6 := hw7.w.cell 6 (v := .bool rs.isSome) rfl
          dsimp only at d6
          have HI7 := Lib.hid hi7
          clear hw7 hf7 hi7 hlk hen
          cases rs with
          | none =>
            simp only [Option.isSome_none] at d6
            have hre := HRE2.out
            rw [vUpto_none HU2.out ml (by omega)] at hre
            obtain ⟨rfl, rfl⟩ := Prod.mk.inj hre
            clear hre
            go_wp2_with fail
            go_ret3
            exact ⟨⟨_, _, rfl, fun ins e => by cases e⟩, HB7.out⟩
          | some x =>
            simp only [Option.isSome_some] at d6
            obtain rfl := HI7.out x rfl
            go_wp2
            go_roundw
            case rel => exact ⟨k + 1, k, ins2, by simp, by omega, HU2, HW7, HB7, HM7⟩
            case measure => simp [intOf]; omega
  · go_simp
    refine hK.out _ _ (fun _ => ((Bel.refl W2).drew.alloc _)) ?_
    clear hK K
    try simp only [List.getElem_toArray, List.getElem_cons_zero, List.getElem_cons_succ, Act.put, List.setIfInBounds_toArray, List.set_cons_zero, List.set_cons_succ]
    refine wpAnyT_one (i := 5) (by kernel_rfl) rfl (fun K hK => ?_)
    go_simp
    refine hK.out _ _ (fun _ => (((Bel.refl W2).drew.alloc _).alloc _)) ?_
    clear hK K
    try simp only [List.getElem_toArray, List.getElem_cons_zero, List.getElem_cons_succ, Act.put, List.setIfInBounds_toArray, List.set_cons_zero, List.set_cons_succ]
    refine wpAnyU_take (i := 9) (v := ?v9b) rfl (by kernel_rfl) (by kernel_rfl) (by kernel_rfl) (by kernel_rfl) (fun _ _ _ h => h) ?hy9b (((Bel.refl W2).drew.alloc _).alloc _) ?rest9b
    case hy9b => first | (refine Or.inl ⟨by rfl, ?_⟩; (intro w' hSw; go_simp) <;> with_reducible rfl) | (refine Or.inr ⟨by rfl, ?_⟩; with_reducible rfl)
    try simp only [List.getElem_toArray, List.getElem_cons_zero, List.getElem_cons_succ, Act.put, List.setIfInBounds_toArray, List.set_cons_zero, List.set_cons_succ]
    refine wpAnyT_one (i := 10) (by kernel_rfl) rfl (fun K hK => ?_)
    go_simp
    refine hK.out _ _ (fun _ => ((((Bel.refl W2).drew.alloc _).alloc _).alloc _)) ?_
    clear hK K
    try simp only [List.getElem_toArray, List.getElem_cons_zero, List.getElem_cons_succ, Act.put, List.setIfInBounds_toArray, List.set_cons_zero, List.set_cons_succ]
    refine wpAnyU_take (i := 11) (v := ?v11b) rfl (by kernel_rfl) (by kernel_rfl) (by kernel_rfl) (by kernel_rfl) (fun _ _ _ h => h) ?hy11b ((((Bel.refl W2).drew.alloc _).alloc _).alloc _) ?rest11b
    case hy11b => first | (refine Or.inl ⟨by rfl, ?_⟩; (intro w' hSw; go_simp) <;> with_reducible rfl) | (refine Or.inr ⟨by rfl, ?_⟩; with_reducible rfl)
    try simp only [List.getElem_toArray, List.getElem_cons_zero, List.getElem_cons_succ, Act.put, List.setIfInBounds_toArray, List.set_cons_zero, List.set_cons_succ]
    refine wpAnyT_done (by kernel_rfl) ?_ _
    refine NoPanic.normal ?_
    have WK : Wk (⟨some ⟨b, o, none⟩, n, c, j, Q, nl, cQ, N + 1 + 1, N + 1, N, ml⟩ : VE) N ((((W2.alloc (.cells (insB (List.replicate ml none)) 4)).alloc (.cells (insC (List.replicate ml none)) 69)).alloc (.cells #[.slice (some ⟨b, o, none⟩) n c, .int .i64 j, .slice Q nl cQ, .slice (some ⟨N + 1, 0, none⟩) ml ml, .slice (some ⟨N, 0, none⟩) ml ml, .int .i64 0, .bool true] 113)).drew) 0 true (List.replicate ml none) := (wk_made8 W2 hN2 (⟨some ⟨b, o, none⟩, n, c, j, Q, nl, cQ, N + 1 + 1, N + 1, N, ml⟩ : VE) ml hm64 rfl).bel (Bel.refl _).drew
    have HBW : Bel w ((((W2.alloc (.cells (insB (List.replicate ml none)) 4)).alloc (.cells (insC (List.replicate ml none)) 69)).alloc (.cells #[.slice (some ⟨b, o, none⟩) n c, .int .i64 j, .slice Q nl cQ, .slice (some ⟨N + 1, 0, none⟩) ml ml, .slice (some ⟨N, 0, none⟩) ml ml, .int .i64 0, .bool true] 113)).drew) := (((HB2.out.alloc _).alloc _).alloc _).drew
    have KPW := KP2.out.bel (((((Bel.refl W2).alloc (.cells (insB (List.replicate ml none)) 4)).alloc (.cells (insC (List.replicate ml none)) 69)).alloc (.cells #[.slice (some ⟨b, o, none⟩) n c, .int .i64 j, .slice Q nl cQ, .slice (some ⟨N + 1, 0, none⟩) ml ml, .slice (some ⟨N, 0, none⟩) ml ml, .int .i64 0, .bool true] 113)).drew)
    generalize (((W2.alloc (.cells (insB (List.replicate ml none)) 4)).alloc (.cells (insC (List.replicate ml none)) 69)).alloc (.cells #[.slice (some ⟨b, o, none⟩) n c, .int .i64 j, .slice Q nl cQ, .slice (some ⟨N + 1, 0, none⟩) ml ml, .slice (some ⟨N, 0, none⟩) ml ml, .int .i64 0, .bool true] 113)).drew = W3 at *
    have HP3 := Lib.hid (hp.out.mono FnR.mono HBW)
    have HL3 := Lib.hid (hls.out.mono SchR.mono HBW)
    have hNW : w.heap.size ≤ N := by rw [← hN]; exact HB2.out.size
    have HBW := Lib.hid HBW
    have q3 := KPW.cell 0 (v := .slice (some ⟨b, o, none⟩) n c) rfl
    obtain ⟨Al3, cl3, e0, -, -⟩ := fn_cells HP3.out j hjL
    rw [ha.out] at e0
    have WK := Lib.hid WK
    clear KPW hN
    go_wp2_with fail
    refine (shnew_any a ha4 _).mono ?_
    rintro e w4 ⟨rfl, hb4⟩
    have HB4 := Lib.hid (HBW.out.trans (hb4.alloc (.cells (shC (shNew a)) 69)))
    have WK4 := Lib.hid (WK.out.bel (hb4.alloc (.cells (shC (shNew a)) 69)))
    have HL := (Bk.new w4 69 (shC (shNew a))).load
    clear hb4 q3 e0
    go_wp2_with (first | (refine at_storeN (ty := 69) (shC (shNew a)) (by rfl) (by rfl) (by simp) info_shape rfl (shC_one _) ?_) | (refine at_loadV (by rfl) HL ?_))
    refine (wto_any (⟨some ⟨b, o, none⟩, n, c, j, Q, nl, cQ, N + 1 + 1, N + 1, N, ml⟩ : VE) N _ 0 true (List.replicate ml none) WK4.out 0 (shNew a) (shNew_ok a) (some ((List.replicate ml none).set 0 (some (shNew a)))) (Lib.hid (vTo_none hml0 _))).mono ?_
    rintro e w5 ⟨rfl, hw5, hf5⟩
    have HB5 := Lib.hid (hf5.toBel HB4.out hNW)
    have WK5 := Lib.hid hw5
    clear hw5 hf5 HL
    go_wp2_with fail
    refine (kinds_any _).mono ?_
    rintro e w6 ⟨rfl, hw6⟩
    obtain ⟨gm, hgm⟩ : ∃ gm, w5.heap.size = gm := ⟨_, rfl⟩
    have HM : Hid (w6.heap[gm]? = some (.map kindsE 8)) := Lib.hid (by rw [hw6, ← hgm]; exact heap_alloc_last w5 _)
    have HB6 : Hid (Bel w w6) := Lib.hid (by rw [hw6]; exact HB5.out.alloc _)
    have WK6 : Hid (Wk (⟨some ⟨b, o, none⟩, n, c, j, Q, nl, cQ, N + 1 + 1, N + 1, N, ml⟩ : VE) N w6 0 true ((List.replicate ml none).set 0 (some (shNew a)))) := Lib.hid (by
      have := WK5.out.bel ((Bel.refl w5).alloc (.map kindsE 8))
      rw [hw6]
      simpa using this)
    have HG : (⟨some ⟨b, o, none⟩, n, c, j, Q, nl, cQ, N + 1 + 1, N + 1, N, ml⟩ : VE).g < gm ∧ (⟨some ⟨b, o, none⟩, n, c, j, Q, nl, cQ, N + 1 + 1, N + 1, N, ml⟩ : VE).Bi < gm ∧ (⟨some ⟨b, o, none⟩, n, c, j, Q, nl, cQ, N + 1 + 1, N + 1, N, ml⟩ : VE).Bs < gm := by
      rw [← hgm]
      exact ⟨WK5.out.w.lt, WK5.out.i.lt, WK5.out.s.lt⟩
    dsimp only at HG
    rw [hgm]
    clear hw6 hgm
    go_wp2_with fail
    go_loopw [66] (fun kv wr => ∃ (k : Nat) (kp : Nat) (insK : InsD), kv = .int .i64 k ∧ k ≤ ml ∧ Hid (vUpto p j ls l a k = some insK) ∧ Hid (Wk (⟨some ⟨b, o, none⟩, n, c, j, Q, nl, cQ, N + 1 + 1, N + 1, N, ml⟩ : VE) N wr kp true insK) ∧ Hid (Bel w wr) ∧ Hid (wr.heap[gm]? = some (.map kindsE 8))) (fun kv _ => ml - (intOf kv).toNat)
    case atStart => exact ⟨0, 0, _, rfl, Nat.zero_le _, Lib.hid (by rw [← HLM.out]; rfl), WK6, HB6, HM⟩
    case round =>
      clear WK6 HB6 HM WK5 HB5 WK4 HB4 WK HBW HP3 HL3
      obtain ⟨k, kp, insK, rfl, hkm, HU, WKr, HBr, HMr⟩ := hrel
      have w3 := WKr.out.w.cell 3 (v := .slice (some ⟨(⟨some ⟨b, o, none⟩, n, c, j, Q, nl, cQ, N + 1 + 1, N + 1, N, ml⟩ : VE).Bi, 0, none⟩) ml ml) rfl
      have w4 := WKr.out.w.cell 4 (v := .slice (some ⟨(⟨some ⟨b, o, none⟩, n, c, j, Q, nl, cQ, N + 1 + 1, N + 1, N, ml⟩ : VE).Bs, 0, none⟩) ml ml) rfl
      have w5 := WKr.out.w.cell 5 (v := .int .i64 kp) rfl
      have w6 := WKr.out.w.cell 6 (v := .bool true) rfl
      have w5f := WKr.out.w.frozen 5
      have hgl := WKr.out.w.lt
      have hbl := WKr.out.s.lt
      dsimp only at w3 w4 w5 w6 w5f hgl hbl
      by_cases hke : k = ml
      · subst hke
        have hre := HRE2.out
        rw [HU.out] at hre
        obtain ⟨rfl, rfl⟩ := Prod.mk.inj hre
        clear hre
        go_wp2_with fail
        have SX : Bel wr wr.drew := (Bel.refl wr).drew
        have X3 := fun (w' : World) (h : Bel wr w') => h.cell w3
        have X4 := fun (w' : World) (h : Bel wr w') => h.cell w4
        have WKx := Lib.hid (WKr.out.bel SX)
        have HBx := Lib.hid (HBr.out.trans SX)
        clear w3 w4 w5 w6 w5f
        refine wp_region_T (fun w' => Bel wr w') (fun _ => false) (by kernel_rfl) ?_
        refine wpAnyU_take (i := 0) (v := ?v0xb) rfl (by kernel_rfl) (by kernel_rfl) (by kernel_rfl) (by kernel_rfl) (fun _ _ _ h => h) ?hy0xb SX ?rest0xb
        case hy0xb => first | (refine Or.inl ⟨by rfl, ?_⟩; (intro w' hSw; go_simp) <;> with_reducible rfl) | (refine Or.inr ⟨by rfl, ?_⟩; with_reducible rfl)
        try simp only [List.getElem_toArray, List.getElem_cons_zero, List.getElem_cons_succ, Act.put, List.setIfInBounds_toArray, List.set_cons_zero, List.set_cons_succ]
        refine wpAnyU_take (i := 1) (v := ?v1xb) rfl (by kernel_rfl) (by kernel_rfl) (by kernel_rfl) (by kernel_rfl) (fun _ _ _ h => h) ?hy1xb SX ?rest1xb
        case hy1xb => first | (refine Or.inl ⟨by rfl, ?_⟩; (intro w' hSw; go_simp) <;> with_reducible rfl) | (refine Or.inr ⟨by rfl, ?_⟩; with_reducible rfl)
        try simp only [List.getElem_toArray, List.getElem_cons_zero, List.getElem_cons_succ, Act.put, List.setIfInBounds_toArray, List.set_cons_zero, List.set_cons_succ]
        refine wpAnyU_take (i := 2) (v := ?v2xb) rfl (by kernel_rfl) (by kernel_rfl) (by kernel_rfl) (by kernel_rfl) (fun _ _ _ h => h) ?hy2xb SX ?rest2xb
        case hy2xb => first | (refine Or.inl ⟨by rfl, ?_⟩; (intro w' hSw; go_simp) <;> with_reducible rfl) | (refine Or.inr ⟨by rfl, ?_⟩; with_reducible rfl)
        try simp only [List.getElem_toArray, List.getElem_cons_zero, List.getElem_cons_succ, Act.put, List.setIfInBounds_toArray, List.set_cons_zero, List.set_cons_succ]
        refine wpAnyU_take (i := 3) (v := ?v3xb) rfl (by kernel_rfl) (by kernel_rfl) (by kernel_rfl) (by kernel_rfl) (fun _ _ _ h => h) ?hy3xb SX ?rest3xb
        case hy3xb => first | (refine Or.inl ⟨by rfl, ?_⟩; (intro w' hSw; go_simp) <;> with_reducible rfl) | (refine Or.inr ⟨by rfl, ?_⟩; with_reducible rfl)
        try simp only [List.getElem_toArray, List.getElem_cons_zero, List.getElem_cons_succ, Act.put, List.setIfInBounds_toArray, List.set_cons_zero, List.set_cons_succ]
        refine wpAnyU_take (i := 4) (v := ?v4xb) rfl (by kernel_rfl) (by kernel_rfl) (by kernel_rfl) (by kernel_rfl) (fun _ _ _ h => h) ?hy4xb SX ?rest4xb
        case hy4xb => first | (refine Or.inl ⟨by rfl, ?_⟩; (intro w' hSw; go_simp) <;> with_reducible rfl) | (refine Or.inr ⟨by rfl, ?_⟩; with_reducible rfl)
        try simp only [List.getElem_toArray, List.getElem_cons_zero, List.getElem_cons_succ, Act.put, List.setIfInBounds_toArray, List.set_cons_zero, List.set_cons_succ]
        refine wpAnyU_take (i := 5) (v := ?v5xb) rfl (by kernel_rfl) (by kernel_rfl) (by kernel_rfl) (by kernel_rfl) (fun _ _ _ h => h) ?hy5xb SX ?rest5xb
        case hy5xb => first | (refine Or.inl ⟨by rfl, ?_⟩; (intro w' hSw; go_simp) <;> with_reducible rfl) | (refine Or.inr ⟨by rfl, ?_⟩; with_reducible rfl)
        try simp only [List.getElem_toArray, List.getElem_cons_zero, List.getElem_cons_succ, Act.put, List.setIfInBounds_toArray, List.set_cons_zero, List.set_cons_succ]
        refine wpAnyU_take (i := 6) (v := ?v6xb) rfl (by kernel_rfl) (by kernel_rfl) (by kernel_rfl) (by kernel_rfl) (fun _ _ _ h => h) ?hy6xb SX ?rest6xb
        case hy6xb => first | (refine Or.inl ⟨by rfl, ?_⟩; (intro w' hSw; go_simp) <;> with_reducible rfl) | (refine Or.inr ⟨by rfl, ?_⟩; with_reducible rfl)
        try simp only [List.getElem_toArray, List.getElem_cons_zero, List.getElem_cons_succ, Act.put, List.setIfInBounds_toArray, List.set_cons_zero, List.set_cons_succ]
        refine wpAnyU_take (i := 7) (v := ?v7xb) rfl (by kernel_rfl) (by kernel_rfl) (by kernel_rfl) (by kernel_rfl) (fun _ _ _ h => h) ?hy7xb SX ?rest7xb
        case hy7xb => first | (refine Or.inl ⟨by rfl, ?_⟩; (intro w' hSw; go_simp) <;> with_reducible rfl) | (refine Or.inr ⟨by rfl, ?_⟩; with_reducible rfl)
        try simp only [List.getElem_toArray, List.getElem_cons_zero, List.getElem_cons_succ, Act.put, List.setIfInBounds_toArray, List.set_cons_zero, List.set_cons_succ]
        refine wpAnyU_take (i := 8) (v := ?v8xb) rfl (by kernel_rfl) (by kernel_rfl) (by kernel_rfl) (by kernel_rfl) (fun _ _ _ h => h) ?hy8xb SX ?rest8xb
        case hy8xb => first | (refine Or.inl ⟨by rfl, ?_⟩; (intro w' hSw; go_simp) <;> with_reducible rfl) | (refine Or.inr ⟨by rfl, ?_⟩; with_reducible rfl)
        try simp only [List.getElem_toArray, List.getElem_cons_zero, List.getElem_cons_succ, Act.put, List.setIfInBounds_toArray, List.set_cons_zero, List.set_cons_succ]
        refine wpAnyU_take (i := 9) (v := ?v9xb) rfl (by kernel_rfl) (by kernel_rfl) (by kernel_rfl) (by kernel_rfl) (fun _ _ _ h => h) ?hy9xb SX ?rest9xb
        case hy9xb => first | (refine Or.inl ⟨by rfl, ?_⟩; (intro w' hSw; go_simp) <;> with_reducible rfl) | (refine Or.inr ⟨by rfl, ?_⟩; with_reducible rfl)
        try simp only [List.getElem_toArray, List.getElem_cons_zero, List.getElem_cons_succ, Act.put, List.setIfInBounds_toArray, List.set_cons_zero, List.set_cons_succ]
        refine wpAnyU_take (i := 10) (v := ?v10xb) rfl (by kernel_rfl) (by kernel_rfl) (by kernel_rfl) (by kernel_rfl) (fun _ _ _ h => h) ?hy10xb SX ?rest10xb
        case hy10xb => first | (refine Or.inl ⟨by rfl, ?_⟩; (intro w' hSw; go_simp) <;> with_reducible rfl) | (refine Or.inr ⟨by rfl, ?_⟩; with_reducible rfl)
        try simp only [List.getElem_toArray, List.getElem_cons_zero, List.getElem_cons_succ, Act.put, List.setIfInBounds_toArray, List.set_cons_zero, List.set_cons_succ]
        refine wpAnyT_done (by kernel_rfl) ?_ _
        refine NoPanic.normal ?_
        go_wp2_with fail
        go_ret3
        exact ⟨⟨_, _, rfl, fun ins e => by cases e; exact ⟨_, _, k, rfl, rfl, WKx.out.len, WKx.out.i, WKx.out.s⟩⟩, HBx.out⟩
      · have hk1 : k < ml := by omega
        have hk2 : (k : Int) < ml := by omega
        have k0 : 0 ≤ (k : Int) := by omega
        have ek : IntKind.i64.wrap ((k : Int) + 1) = (k : Int) + 1 := wrap_i64 (by omega) (by omega)
        have hkl : k < l.length := by rw [HLM.out]; exact hk1
        have hlK : insK.length = ml := WKr.out.len
        have hki : k < insK.length := by omega
        have hsr := HSL.out.mono InstR.mono HBr.out
        have hic := inst_cells hsr k hkl
        have hxw : (l[k]).Wf := by
          obtain ⟨_, _, _, _, _, ⟨-, hxw⟩, -⟩ := hsr.get k hkl
          exact hxw
        have HOK := Lib.hid (hok.out k hkl)
        obtain ⟨x, HX⟩ : ∃ x, Hid (l[k]! = x) := ⟨_, Lib.hid rfl⟩
        have hx2 : l[k] = x := by rw [← getElem!_pos l k hkl]; exact HX.out
        rw [hx2] at hxw
        rw [HX.out] at hic HOK
        have HXW := Lib.hid hxw
        obtain ⟨op, fn, dst, src, reg, off, imm⟩ := x
        have HMB : Hid (mayB op fn dst src reg off imm = true) := Lib.hid HOK.out
        obtain ⟨⟨hop0, hop8⟩, -⟩ := of_decide_eq_true HMB.out
        have c0 := hic 0 (.int .i64 op) rfl
        have c1 := hic 1 (.int .i64 fn) rfl
        have c2 := hic 2 (.int .i64 dst) rfl
        have c3 := hic 3 (.int .i64 src) rfl
        have c4 := hic 4 (.bool reg) rfl
        have c5 := hic 5 (.int .i64 off) rfl
        have c6 := hic 6 (.int .u32 imm) rfl
        rw [Nat.add_zero] at c0
        clear hic hsr hke hx2 hxw
        obtain ⟨q, hq⟩ : ∃ q, Hid (insK[k] = q) := ⟨_, Lib.hid rfl⟩
        have hbk := WKr.out.s.cell k (insB_get insK hki)
        dsimp only at hbk
        rw [hq.out] at hbk
        have hgd : insK.getD k none = q := by
          rw [List.getD_eq_getElem?_getD, List.getElem?_eq_getElem hki]
          exact hq.out
        have WKp := WKr.out.place k
        have HBp := HBr.out.setCell (p := ⟨(⟨some ⟨b, o, none⟩, n, c, j, Q, nl, cQ, N + 1 + 1, N + 1, N, ml⟩ : VE).g, 5, none⟩) (Nat.le_trans hNW WKr.out.ng) (.int .i64 k)
        have hMp : (wr.setCell ⟨(⟨some ⟨b, o, none⟩, n, c, j, Q, nl, cQ, N + 1 + 1, N + 1, N, ml⟩ : VE).g, 5, none⟩ (.int .i64 k)).heap[gm]? = some (.map kindsE 8) := (heap_setCell_other wr _ gm _ (by dsimp only; omega)).trans HMr.out
        have WKa := Lib.hid (WKp.bel ((Bel.refl _).alloc (.cells #[.int .i64 op, .int .i64 fn, .int .i64 dst, .int .i64 src, .bool reg, .int .i64 off, .int .u32 imm] 95)))
        have HBb := Lib.hid (HBp.alloc (.cells #[.int .i64 op, .int .i64 fn, .int .i64 dst, .int .i64 src, .bool reg, .int .i64 off, .int .u32 imm] 95))
        have HMa : Hid (((wr.setCell ⟨(⟨some ⟨b, o, none⟩, n, c, j, Q, nl, cQ, N + 1 + 1, N + 1, N, ml⟩ : VE).g, 5, none⟩ (.int .i64 k)).alloc (.cells #[.int .i64 op, .int .i64 fn, .int .i64 dst, .int .i64 src, .bool reg, .int .i64 off, .int .u32 imm] 95)).heap[gm]? = some (.map kindsE 8)) := Lib.hid (((Bel.refl _).alloc (.cells #[.int .i64 op, .int .i64 fn, .int .i64 dst, .int .i64 src, .bool reg, .int .i64 off, .int .u32 imm] 95)).out.block gm (Array.getElem?_eq_some_iff.1 hMp).1 |>.trans hMp)
        clear WKp HBp hMp
        cases q with
        | none =>
          simp only [Option.isSome_none] at hbk
          have HU2 : Hid (vUpto p j ls l a (k + 1) = some insK) := Lib.hid (by
            rw [vUpto, HU.out]
            simp only [Option.bind_some, hgd])
          clear hgd
          go_wp2
          go_roundw
          case rel => exact ⟨k + 1, k, insK, by simp, by omega, HU2, WKa, HBb, HMa⟩
          case measure => simp [intOf]; omega
        | some s =>
          simp only [Option.isSome_some] at hbk
          obtain ⟨hfn, hen⟩ := kind_at hop0 hop8
          have hlk := klook HMa.out op _ hfn
          have hst := HSt.out k insK s HU.out hkl hgd
          rw [HX.out] at hst
          have HST := Lib.hid hst
          obtain ⟨F, hF⟩ : ∃ F, stepF op = F := ⟨_, rfl⟩
          have HSF : Hid (StepAt F op) := Lib.hid (by rw [← hF]; exact hst)
          rw [hF] at hlk hen
          obtain ⟨rs, hrs⟩ : ∃ rs, Hid (vStep p j ls k ⟨op, fn, dst, src, reg, off, imm⟩ s insK = rs) := ⟨_, Lib.hid rfl⟩
          have HU2 : Hid (vUpto p j ls l a (k + 1) = rs) := Lib.hid (by
            rw [vUpto, HU.out]
            simp only [Option.bind_some, hgd, HX.out]
            exact hrs.out)
          clear hgd hst hF hfn
          go_wp2_with fail
          refine (HSF.out p ls (⟨some ⟨b, o, none⟩, n, c, j, Q, nl, cQ, N + 1 + 1, N + 1, N, ml⟩ : VE) N w _ k insK WKa.out HBb.out hNW hp.out hn.out hls.out hnl.out hmb.out HSM.out hl4 hki s (Lib.hid (by rw [hq.out]; rfl)) fn dst src reg off imm HXW.out.imm HMB rs hrs).mono ?_
          rintro e w7 ⟨rfl, ⟨ins2, hw7, hi7⟩, hf7⟩
          have HB7 := Lib.hid (hf7.toBel HBb.out hNW)
          have HM7 : Hid (w7.heap[gm]? = some (.map kindsE 8)) := Lib.hid ((hf7.other gm (Array.getElem?_eq_some_iff.1 HMa.out).1 (by dsimp only; omega) (by dsimp only; omega) (by dsimp only; omega)).trans HMa.out)
          have HW7 := Lib.hid hw7
          have d6 := hw7.w.cell 6 (v := .bool rs.isSome) rfl
          dsimp only at d6
          have HI7 := Lib.hid hi7
          clear hw7 hf7 hi7 hlk hen
          cases rs with
          | none =>
            simp only [Option.isSome_none] at d6
            have hre := HRE2.out
            rw [vUpto_none HU2.out ml (by omega)] at hre
            obtain ⟨rfl, rfl⟩ := Prod.mk.inj hre
            clear hre
            go_wp2_with fail
            go_ret3
            exact ⟨⟨_, _, rfl, fun ins e => by cases e⟩, HB7.out⟩
          | some x =>
            simp only [Option.isSome_some] at d6
            obtain rfl := HI7.out x rfl
            go_wp2
            go_roundw
            case rel => exact ⟨k + 1, k, ins2, by simp, by omega, HU2, HW7, HB7, HM7⟩
            case measure => simp [intOf]; omega
end Go.Proofs.YtebdnobgdimdoaaGreat
