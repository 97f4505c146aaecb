/- ProgSame: its walk. -/
import Derived.Test.YtcllifcafgiopaaPgOwn
import Derived.Test.YtcllifcafgiopaaHeldU
set_option linter.unusedVariables false
set_option linter.unusedSimpArgs false
namespace Go.Proofs.Ytcllifcafgiopaa
open Go.RowKit

theorem fns_set_len {L : List FnD} {i : Nat} (hi : i < L.length) {f : FnD} (hf : f.code.length = (L[i]).code.length) : (progBytes (L.set i f)).length = (progBytes L).length := by
  have e : ((L.set i f).flatMap FnD.bytes).length = (L.flatMap FnD.bytes).length := by
    rw [List.length_flatMap, List.length_flatMap, List.map_set]
    have h1 : (FnD.bytes f).length = (L.map fun a => (FnD.bytes a).length)[i]'(by rw [List.length_map]; exact hi) := by
      rw [List.getElem_map, fnBytes_len, fnBytes_len, hf]
    rw [h1, List.set_getElem_self]
  unfold progBytes
  simp only [List.length_append, List.length_set]
  omega
theorem set_ne {L : List FnD} {i k : Nat} (hi : i < L.length) (hk : k < (L[i]).code.length) {x : InstD} (hx : (L[i]).code[k] ≠ x) : L.set i ⟨(L[i]).args, (L[i]).code.set k x⟩ ≠ L := by
  intro h
  have h1 := congrArg (fun l => l[i]?) h
  simp only [List.getElem?_set_self hi, List.getElem?_eq_getElem hi, Option.some.injEq] at h1
  have h2 := congrArg (fun f : FnD => f.code[k]?) h1
  simp only [List.getElem?_set_self hk, List.getElem?_eq_getElem hk, Option.some.injEq] at h2
  exact hx h2.symm
theorem bytes_inj {L M : List FnD} (hL : progMay L = true) (hM : progMay M = true) (iL : ProgIns L) (iM : ProgIns M) (h : progBytes L = progBytes M) : L = M := by
  have h1 := getP_put iL []
  have h2 := getP_put iM []
  rw [h, h2, if_pos ⟨rfl, hM⟩, if_pos ⟨rfl, hL⟩] at h1
  exact (Prod.mk.inj h1).1.symm
theorem put_cases (L : List FnD) {bs : List Int} {e : Int} (h : putP L = (bs, e)) : (e = 0 ∧ progMay L = true ∧ bs = progBytes L) ∨ e = 1 := by
  unfold putP at h
  by_cases k : progMay L = true
  · rw [if_pos k] at h
    exact .inl ⟨(Prod.mk.inj h).2.symm, k, (Prod.mk.inj h).1.symm⟩
  · rw [if_neg k] at h
    exact .inr (Prod.mk.inj h).2.symm
set_option maxHeartbeats 8000000 in
set_option maxRecDepth 100000 in
theorem ProgSame_walk (C : Array Value) (L : List FnD) (i k : Int) (Cx : Array Value) (x : InstD) (W : World) (hp : ProgR W C.toList L) (hi : (Lit.int .i64 i).wf = true) (hk : (Lit.int .i64 k).wf = true) (hx : InstR W Cx.toList x) :
    Calls Try.prog 6 #[.agg C, .int .i64 i, .int .i64 k, .agg Cx] W fun e w' => e = .returned (.bool true) ∧ Bel W w' := by
  obtain ⟨A, c, hC, hsl⟩ := hp
  obtain rfl : C = #[.slice A L.length c] := by cases C; simpa using hC
  obtain ⟨op, fn, dst, src, reg, off, imm⟩ := x
  obtain ⟨hCx, hxw⟩ := hx
  obtain rfl : Cx = #[.int .i64 op, .int .i64 fn, .int .i64 dst, .int .i64 src, .bool reg, .int .i64 off, .int .u32 imm] := by cases Cx; simpa [InstD.cells] using hCx
  clear hC hCx hi hk
  have HXW := Lib.hid hxw
  obtain ⟨n, hn0⟩ : ∃ n, L.length = n := ⟨_, rfl⟩
  have hn := Lib.hid hn0
  rw [hn0]
  have HBa := Lib.hid (((Bel.refl W).alloc (.cells #[.slice A n c] 24)).alloc (.cells #[.int .i64 op, .int .i64 fn, .int .i64 dst, .int .i64 src, .bool reg, .int .i64 off, .int .u32 imm] 43))
  have HS := Lib.hid (hsl.mono FnR.mono HBa.out)
  have K0 := Lib.hid ((Blk.new W 24 #[.slice A n c]).alloc (.cells #[.int .i64 op, .int .i64 fn, .int .i64 dst, .int .i64 src, .bool reg, .int .i64 off, .int .u32 imm] 43))
  have K1 : Hid (Blk ((W.alloc (.cells #[.slice A n c] 24)).alloc (.cells #[.int .i64 op, .int .i64 fn, .int .i64 dst, .int .i64 src, .bool reg, .int .i64 off, .int .u32 imm] 43)) (W.heap.size + 1) 43 #[.int .i64 op, .int .i64 fn, .int .i64 dst, .int .i64 src, .bool reg, .int .i64 off, .int .u32 imm]) := Lib.hid (by
    have := Blk.new (W.alloc (.cells #[.slice A n c] 24)) 43 #[.int .i64 op, .int .i64 fn, .int .i64 dst, .int .i64 src, .bool reg, .int .i64 off, .int .u32 imm]
    simpa using this)
  obtain ⟨fv, hfv⟩ : ∃ fv, Hid (fewB L = fv) := ⟨_, Lib.hid rfl⟩
  clear hsl hn0 hxw
  go_enter Try.func6, Try.ntmps6
  go_wp2_with fail
  generalize (W.alloc (.cells #[.slice A n c] 24)).alloc (.cells #[.int .i64 op, .int .i64 fn, .int .i64 dst, .int .i64 src, .bool reg, .int .i64 off, .int .u32 imm] 43) = W1 at *
  generalize W.heap.size = g at *
  refine (awake_any _).mono ?_
  rintro e w1 ⟨rfl, hb⟩
  have HB1 := Lib.hid hb
  clear hb
  have q1 := (K0.out.bel HB1.out).cell 0 rfl
  go_wp2_with fail
  refine (refFew_any A c n L fv _ (HS.out.mono FnR.mono HB1.out) hn hfv).mono ?_
  rintro e w2 ⟨rfl, hb⟩
  have HB := Lib.hid (HB1.out.trans hb)
  clear hb q1 HB1
  cases fv
  · go_wp2_with fail
    go_quiet (fail)
    go_wp2_with fail
    go_ret
    exact ⟨by first | rfl | simp, by repeat (first | exact HBa.out.trans HB.out | apply Bel.drew | apply Bel.drewN)⟩
  have q2 := (K0.out.bel HB.out).cell 0 (v := .slice A n c) rfl
  by_cases i0 : i < 0
  · go_wp2_with fail
    go_quiet (fail)
    go_wp2_with fail
    go_ret
    exact ⟨by first | rfl | simp, by repeat (first | exact HBa.out.trans HB.out | apply Bel.drew | apply Bel.drewN)⟩
  by_cases i1 : (n : Int) ≤ i
  · have t1 : decide (i < 0) = false := decide_eq_false (by omega)
    have t2 : decide ((n : Int) ≤ i) = true := decide_eq_true i1
    clear i0 i1
    go_wp2_with fail
    go_quiet (fail)
    go_wp2_with fail
    go_ret
    exact ⟨by first | rfl | simp, by repeat (first | exact HBa.out.trans HB.out | apply Bel.drew | apply Bel.drewN)⟩
  by_cases k0 : k < 0
  · have t1 : decide (i < 0) = false := decide_eq_false (by omega)
    have t2 : decide ((n : Int) ≤ i) = false := decide_eq_false (by omega)
    have t3 : decide (k < 0) = true := decide_eq_true k0
    clear i0 i1 k0
    go_wp2_with fail
    go_quiet (fail)
    go_wp2_with fail
    go_ret
    exact ⟨by first | rfl | simp, by repeat (first | exact HBa.out.trans HB.out | apply Bel.drew | apply Bel.drewN)⟩
  obtain ⟨ii, rfl⟩ : ∃ j : Nat, i = j := ⟨i.toNat, by omega⟩
  obtain ⟨kk, rfl⟩ : ∃ j : Nat, k = j := ⟨k.toNat, by omega⟩
  have hin : ii < n := by omega
  have hii : ii < L.length := by rw [hn.out]; exact hin
  have HS2 := Lib.hid (HS.out.mono FnR.mono HB.out)
  obtain ⟨b, o, rfl⟩ := HS.out.addr (by omega)
  obtain ⟨Ak, ck, -, d1, hsk⟩ := fn_cells HS2.out ii hii
  obtain ⟨lk, HLK⟩ : ∃ lk, Hid ((L[ii]).code.length = lk) := ⟨_, Lib.hid rfl⟩
  rw [HLK.out] at d1
  have HSK := Lib.hid hsk
  have hlk80 : lk ≤ 9223372036854775807 := by
    have h1 := hsk.le
    have h2 := hsk.big
    rw [HLK.out] at h1
    simp only [maxLen] at h2
    omega
  clear hsk
  by_cases k1 : (lk : Int) ≤ kk
  · have t1 : decide ((ii : Int) < 0) = false := decide_eq_false (by omega)
    have t2 : decide ((n : Int) ≤ ii) = false := decide_eq_false (by omega)
    have t3 : decide ((kk : Int) < 0) = false := decide_eq_false (by omega)
    have t4 : decide ((lk : Int) ≤ kk) = true := decide_eq_true k1
    have t5 : decide (n ≤ ii) = false := decide_eq_false (by omega)
    have t6 : decide (lk ≤ kk) = true := decide_eq_true (by omega)
    have j0 : 0 ≤ (ii : Int) := by omega
    have j1 : (ii : Int) < n := by omega
    clear i0 i1 k0 k1
    go_wp2_with fail
    go_quiet (fail)
    go_wp2_with fail
    go_ret
    exact ⟨by first | rfl | simp, by repeat (first | exact HBa.out.trans HB.out | apply Bel.drew | apply Bel.drewN)⟩
  have hkn : kk < lk := by omega
  have hkk : kk < (L[ii]).code.length := by rw [HLK.out]; exact hkn
  obtain ⟨bk, ok, rfl⟩ := HSK.out.addr (by omega)
  obtain ⟨c0, c1, c2, c3, c4, c5, c6, -⟩ := HSK.out.inst_at hkk
  obtain ⟨be, hbe⟩ : ∃ be, Hid (decide ((L[ii]).code[kk]! = (⟨op, fn, dst, src, reg, off, imm⟩ : InstD)) = be) := ⟨_, Lib.hid rfl⟩
  have NE := inst_eql ((L[ii]).code[kk]!) ⟨op, fn, dst, src, reg, off, imm⟩ be hbe
  simp only at NE
  have y0 := (K1.out.bel HB.out).cell 0 (v := .int .i64 op) rfl
  have y1 := (K1.out.bel HB.out).cell 1 (v := .int .i64 fn) rfl
  have y2 := (K1.out.bel HB.out).cell 2 (v := .int .i64 dst) rfl
  have y3 := (K1.out.bel HB.out).cell 3 (v := .int .i64 src) rfl
  have y4 := (K1.out.bel HB.out).cell 4 (v := .bool reg) rfl
  have y5 := (K1.out.bel HB.out).cell 5 (v := .int .i64 off) rfl
  have y6 := (K1.out.bel HB.out).cell 6 (v := .int .u32 imm) rfl
  have HNE : Hid (be = false → (L[ii]).code[kk] ≠ (⟨op, fn, dst, src, reg, off, imm⟩ : InstD)) := Lib.hid (fun h => by
    have h1 := hbe.out
    rw [h, getElem!_pos _ kk hkk] at h1
    exact of_decide_eq_false h1)
  clear hbe
  generalize (L[ii]).code[kk]! = Xk at *
  obtain ⟨xop, xfn, xdst, xsrc, xreg, xoff, ximm⟩ := Xk
  simp only at c0 c1 c2 c3 c4 c5 c6 NE
  have j0 : 0 ≤ (ii : Int) := by omega
  have j1 : (ii : Int) < n := by omega
  have j2 : 0 ≤ (kk : Int) := by omega
  have j3 : (kk : Int) < lk := by omega
  have t5 : decide (n ≤ ii) = false := decide_eq_false (by omega)
  have t6 : decide (lk ≤ kk) = false := decide_eq_false (by omega)
  have t1 : decide ((ii : Int) < 0) = false := decide_eq_false (by omega)
  have t3 : decide ((kk : Int) < 0) = false := decide_eq_false (by omega)
  clear i0 i1 k0 k1
  cases be
  case true =>
    go_wp2_with fail
    go_quiet (fail)
    go_wp2_with fail
    go_ret
    exact ⟨by first | rfl | simp, by repeat (first | exact HBa.out.trans HB.out | apply Bel.drew | apply Bel.drewN)⟩
  go_wp2_with fail
  go_quiet (fail)
  go_wp2_with fail
  have hbz := (Bel.refl w2).drewN nq
  have HBz := Lib.hid (HB.out.trans hbz)
  clear c0 c1 c2 c3 c4 c5 c6 NE y0 y1 y2 y3 y4 y5 y6 d1 q2 hbz HSK HS2
  clear HB
  have HB := HBz
  clear HBz
  generalize w2.drewN nq = wz at *
  have HFEW := Lib.hid (few_facts hfv.out)
  have hn12 : n ≤ 12 := by rw [← hn.out]; exact HFEW.out.1
  refine (own_any _ c n L _ (HS.out.mono FnR.mono HB.out) hn (by omega) (Lib.hid (fun f hf => Nat.le_trans (HFEW.out.2 f hf) (by decide)))).mono ?_
  rintro e w3 ⟨zs, v, rfl, hzs, ho⟩
  have HZN : Hid (zs.length = n) := Lib.hid (by rw [← hn.out, ← hzs, List.length_map])
  have hiz : ii < zs.length := by rw [HZN.out]; exact hin
  have hzi : (zs[ii]).1 = L[ii] := by
    subst hzs
    simp
  have hkz : kk < (zs[ii]).1.code.length := by rw [hzi]; exact hkk
  have hwl : ∀ f ∈ zs.map Prod.fst, FnWf f := by rw [hzs]; exact sl_wf HS.out
  have PUT0 := (ho.mono ((Bel.refl w3).alloc (.cells #[v] 24))).put hwl hiz hkz
  obtain ⟨D, cD, G, cG, hv, PD, PF, PG, PC, PX⟩ := PUT0
  rw [hzi, HLK.out] at PD
  rw [HZN.out] at hv
  subst hv
  rw [hzi, hzs] at PX
  rw [hzi, HLK.out] at PC
  have PXH := Lib.hid PX
  have HB3 := Lib.hid (HB.out.trans (ho.bel.trans ((Bel.refl w3).alloc (.cells #[.slice (some ⟨D, 0, none⟩) n cD] 24))))
  have KQ := Lib.hid (Blk.new w3 24 #[.slice (some ⟨D, 0, none⟩) n cD])
  obtain ⟨u0, g0⟩ := PC (kk * 7) (by omega)
  obtain ⟨u1, g1⟩ := PC (kk * 7 + 1) (by omega)
  obtain ⟨u2, g2⟩ := PC (kk * 7 + 2) (by omega)
  obtain ⟨u3, g3⟩ := PC (kk * 7 + 3) (by omega)
  obtain ⟨u4, g4⟩ := PC (kk * 7 + 4) (by omega)
  obtain ⟨u5, g5⟩ := PC (kk * 7 + 5) (by omega)
  obtain ⟨u6, g6⟩ := PC (kk * 7 + 6) (by omega)
  have PFH := Lib.hid PF
  clear PX PF PC ho hwl hiz hkz hzi
  have PDH := Lib.hid PD
  clear PD
  have GH0 := Lib.hid g0
  have GH1 := Lib.hid g1
  have GH2 := Lib.hid g2
  have GH3 := Lib.hid g3
  have GH4 := Lib.hid g4
  have GH5 := Lib.hid g5
  have GH6 := Lib.hid g6
  clear g0 g1 g2 g3 g4 g5 g6
  go_wp2_with fail
  generalize w3.alloc (.cells #[.slice (some ⟨D, 0, none⟩) n cD] 24) = Wq at *
  generalize w3.heap.size = q at *
  have HR := Bel.refl Wq
  have SD := (Bel.refl Wq).drew
  have PQ := fun (w' : World) (h : Bel Wq w') => h.cell (KQ.out.cell 0 (v := .slice (some ⟨D, 0, none⟩) n cD) rfl)
  have PD := fun (w' : World) (h : Bel Wq w') => h.cell PDH.out
  have X0 := fun (w' : World) (h : Bel Wq w') => h.cell ((K1.out.bel HB3.out).cell 0 (v := .int .i64 op) rfl)
  have X1 := fun (w' : World) (h : Bel Wq w') => h.cell ((K1.out.bel HB3.out).cell 1 (v := .int .i64 fn) rfl)
  have X2 := fun (w' : World) (h : Bel Wq w') => h.cell ((K1.out.bel HB3.out).cell 2 (v := .int .i64 dst) rfl)
  have X3 := fun (w' : World) (h : Bel Wq w') => h.cell ((K1.out.bel HB3.out).cell 3 (v := .int .i64 src) rfl)
  have X4 := fun (w' : World) (h : Bel Wq w') => h.cell ((K1.out.bel HB3.out).cell 4 (v := .bool reg) rfl)
  have X5 := fun (w' : World) (h : Bel Wq w') => h.cell ((K1.out.bel HB3.out).cell 5 (v := .int .i64 off) rfl)
  have X6 := fun (w' : World) (h : Bel Wq w') => h.cell ((K1.out.bel HB3.out).cell 6 (v := .int .u32 imm) rfl)
  have G0 := fun (w' : World) (h : Bel Wq w') => h.cell GH0.out
  have G1 := fun (w' : World) (h : Bel Wq w') => h.cell GH1.out
  have G2 := fun (w' : World) (h : Bel Wq w') => h.cell GH2.out
  have G3 := fun (w' : World) (h : Bel Wq w') => h.cell GH3.out
  have G4 := fun (w' : World) (h : Bel Wq w') => h.cell GH4.out
  have G5 := fun (w' : World) (h : Bel Wq w') => h.cell GH5.out
  have G6 := fun (w' : World) (h : Bel Wq w') => h.cell GH6.out
  have F0 := fun (w' : World) (h : Bel Wq w') => (h.frozen GH0.out).trans (PFH.out (kk * 7))
  have F1 := fun (w' : World) (h : Bel Wq w') => (h.frozen GH1.out).trans (PFH.out (kk * 7 + 1))
  have F2 := fun (w' : World) (h : Bel Wq w') => (h.frozen GH2.out).trans (PFH.out (kk * 7 + 2))
  have F3 := fun (w' : World) (h : Bel Wq w') => (h.frozen GH3.out).trans (PFH.out (kk * 7 + 3))
  have F4 := fun (w' : World) (h : Bel Wq w') => (h.frozen GH4.out).trans (PFH.out (kk * 7 + 4))
  have F5 := fun (w' : World) (h : Bel Wq w') => (h.frozen GH5.out).trans (PFH.out (kk * 7 + 5))
  have F6 := fun (w' : World) (h : Bel Wq w') => (h.frozen GH6.out).trans (PFH.out (kk * 7 + 6))
  refine wp_region_T (fun w' => Bel Wq w') (fun j => j == 9) (by kernel_rfl) ?_
  refine wpAnyU_take (i := 0) (v := ?v0) rfl (by kernel_rfl) (by kernel_rfl) (by kernel_rfl) (by kernel_rfl) (fun _ _ _ h => h) ?hy0 SD ?rest0
  case hy0 => first | (refine Or.inl ⟨by rfl, ?_⟩; (intro w' hSw; go_simp) <;> with_reducible rfl) | (refine Or.inr ⟨by rfl, ?_⟩; with_reducible rfl)
  try simp only [List.getElem_toArray, List.getElem_cons_zero, List.getElem_cons_succ, Act.put, List.setIfInBounds_toArray, List.set_cons_zero, List.set_cons_succ]
  refine wpAnyU_take (i := 1) (v := ?v1) rfl (by kernel_rfl) (by kernel_rfl) (by kernel_rfl) (by kernel_rfl) (fun _ _ _ h => h) ?hy1 SD ?rest1
  case hy1 => first | (refine Or.inl ⟨by rfl, ?_⟩; (intro w' hSw; go_simp) <;> with_reducible rfl) | (refine Or.inr ⟨by rfl, ?_⟩; with_reducible rfl)
  try simp only [List.getElem_toArray, List.getElem_cons_zero, List.getElem_cons_succ, Act.put, List.setIfInBounds_toArray, List.set_cons_zero, List.set_cons_succ]
  refine wpAnyU_take (i := 2) (v := ?v2) rfl (by kernel_rfl) (by kernel_rfl) (by kernel_rfl) (by kernel_rfl) (fun _ _ _ h => h) ?hy2 SD ?rest2
  case hy2 => first | (refine Or.inl ⟨by rfl, ?_⟩; (intro w' hSw; go_simp) <;> with_reducible rfl) | (refine Or.inr ⟨by rfl, ?_⟩; with_reducible rfl)
  try simp only [List.getElem_toArray, List.getElem_cons_zero, List.getElem_cons_succ, Act.put, List.setIfInBounds_toArray, List.set_cons_zero, List.set_cons_succ]
  refine wpAnyU_take (i := 3) (v := ?v3) rfl (by kernel_rfl) (by kernel_rfl) (by kernel_rfl) (by kernel_rfl) (fun _ _ _ h => h) ?hy3 SD ?rest3
  case hy3 => first | (refine Or.inl ⟨by rfl, ?_⟩; (intro w' hSw; go_simp) <;> with_reducible rfl) | (refine Or.inr ⟨by rfl, ?_⟩; with_reducible rfl)
  try simp only [List.getElem_toArray, List.getElem_cons_zero, List.getElem_cons_succ, Act.put, List.setIfInBounds_toArray, List.set_cons_zero, List.set_cons_succ]
  refine wpAnyU_take (i := 4) (v := ?v4) rfl (by kernel_rfl) (by kernel_rfl) (by kernel_rfl) (by kernel_rfl) (fun _ _ _ h => h) ?hy4 SD ?rest4
  case hy4 => first | (refine Or.inl ⟨by rfl, ?_⟩; (intro w' hSw; go_simp) <;> with_reducible rfl) | (refine Or.inr ⟨by rfl, ?_⟩; with_reducible rfl)
  try simp only [List.getElem_toArray, List.getElem_cons_zero, List.getElem_cons_succ, Act.put, List.setIfInBounds_toArray, List.set_cons_zero, List.set_cons_succ]
  refine wpAnyU_take (i := 5) (v := ?v5) rfl (by kernel_rfl) (by kernel_rfl) (by kernel_rfl) (by kernel_rfl) (fun _ _ _ h => h) ?hy5 SD ?rest5
  case hy5 => first | (refine Or.inl ⟨by rfl, ?_⟩; (intro w' hSw; go_simp) <;> with_reducible rfl) | (refine Or.inr ⟨by rfl, ?_⟩; with_reducible rfl)
  try simp only [List.getElem_toArray, List.getElem_cons_zero, List.getElem_cons_succ, Act.put, List.setIfInBounds_toArray, List.set_cons_zero, List.set_cons_succ]
  refine wpAnyU_take (i := 6) (v := ?v6) rfl (by kernel_rfl) (by kernel_rfl) (by kernel_rfl) (by kernel_rfl) (fun _ _ _ h => h) ?hy6 SD ?rest6
  case hy6 => first | (refine Or.inl ⟨by rfl, ?_⟩; (intro w' hSw; go_simp) <;> with_reducible rfl) | (refine Or.inr ⟨by rfl, ?_⟩; with_reducible rfl)
  try simp only [List.getElem_toArray, List.getElem_cons_zero, List.getElem_cons_succ, Act.put, List.setIfInBounds_toArray, List.set_cons_zero, List.set_cons_succ]
  refine wpAnyU_take (i := 7) (v := ?v7) rfl (by kernel_rfl) (by kernel_rfl) (by kernel_rfl) (by kernel_rfl) (fun _ _ _ h => h) ?hy7 SD ?rest7
  case hy7 => first | (refine Or.inl ⟨by rfl, ?_⟩; (intro w' hSw; go_simp) <;> with_reducible rfl) | (refine Or.inr ⟨by rfl, ?_⟩; with_reducible rfl)
  try simp only [List.getElem_toArray, List.getElem_cons_zero, List.getElem_cons_succ, Act.put, List.setIfInBounds_toArray, List.set_cons_zero, List.set_cons_succ]
  refine wpAnyU_take (i := 8) (v := ?v8) rfl (by kernel_rfl) (by kernel_rfl) (by kernel_rfl) (by kernel_rfl) (fun _ _ _ h => h) ?hy8 SD ?rest8
  case hy8 => first | (refine Or.inl ⟨by rfl, ?_⟩; (intro w' hSw; go_simp) <;> with_reducible rfl) | (refine Or.inr ⟨by rfl, ?_⟩; with_reducible rfl)
  try simp only [List.getElem_toArray, List.getElem_cons_zero, List.getElem_cons_succ, Act.put, List.setIfInBounds_toArray, List.set_cons_zero, List.set_cons_succ]
  refine wpAnyT_one (i := 9) (by kernel_rfl) rfl (fun K hK => ?_)
  go_simp
  refine hK.out _ _ (fun h => absurd h (by decide)) ?_
  clear hK K
  try simp only [List.getElem_toArray, List.getElem_cons_zero, List.getElem_cons_succ, Act.put, List.setIfInBounds_toArray, List.set_cons_zero, List.set_cons_succ]
  refine wpAnyT_done (by kernel_rfl) ?_ _
  refine NoPanic.normal ?_
  clear HR SD PQ PD X0 G0 F0 GH0 X1 G1 F1 GH1 X2 G2 F2 GH2 X3 G3 F3 GH3 X4 G4 F4 GH4 X5 G5 F5 GH5 X6 G6 F6 GH6 PDH PFH
  obtain ⟨py1, py2, py3⟩ := PXH.out ⟨op, fn, dst, src, reg, off, imm⟩ q _ HXW.out KQ.out
  have hdd := (Bel.refl (set7 Wq G (kk * 7) ⟨op, fn, dst, src, reg, off, imm⟩)).drew
  have PY := And.intro (py1.mono FnR.mono hdd) (And.intro (py2.trans hdd) (py3.bel hdd))
  clear py1 py2 py3 hdd PXH KQ HB3
  simp only [set7] at PY
  generalize (((((((Wq.setCell ⟨G, kk * 7, none⟩ (.int .i64 op)).setCell ⟨G, kk * 7 + 1, none⟩ (.int .i64 fn)).setCell ⟨G, kk * 7 + 2, none⟩ (.int .i64 dst)).setCell ⟨G, kk * 7 + 3, none⟩ (.int .i64 src)).setCell ⟨G, kk * 7 + 4, none⟩ (.bool reg)).setCell ⟨G, kk * 7 + 5, none⟩ (.int .i64 off)).setCell ⟨G, kk * 7 + 6, none⟩ (.int .u32 imm)).drew = W6 at *
  obtain ⟨M, hM⟩ : ∃ M, Hid (L.set ii ⟨(L[ii]).args, (L[ii]).code.set kk ⟨op, fn, dst, src, reg, off, imm⟩⟩ = M) := ⟨_, Lib.hid rfl⟩
  rw [hM.out] at PY
  have S6 := Lib.hid PY.1
  have HB6 := Lib.hid (HB.out.trans PY.2.1)
  have K6 := Lib.hid PY.2.2
  have hnM : Hid (M.length = n) := Lib.hid (by rw [← hM.out, List.length_set, hn.out])
  have hNE : Hid (M ≠ L) := Lib.hid (by rw [← hM.out]; exact set_ne hii hkk (HNE.out (by first | rfl | trivial)))
  have hLEN : Hid ((progBytes M).length = (progBytes L).length) := Lib.hid (by rw [← hM.out]; exact fns_set_len hii (by simp))
  clear PY hM HNE hkk hii HLK HZN hzs t1 t3 t5 t6 j0 j1 j2 j3 hlk80
  have q6 := (K0.out.bel HB6.out).cell 0 (v := .slice (some ⟨b, o, none⟩) n c) rfl
  obtain ⟨bs, e0, hput⟩ : ∃ bs e0, Hid (putP L = (bs, e0)) := ⟨_, _, Lib.hid rfl⟩
  obtain ⟨m, hm⟩ : ∃ m, Hid (bs.length = m) := ⟨_, Lib.hid rfl⟩
  obtain ⟨cs, f0, hput2⟩ : ∃ cs f0, Hid (putP M = (cs, f0)) := ⟨_, _, Lib.hid rfl⟩
  obtain ⟨m2, hm2⟩ : ∃ m2, Hid (cs.length = m2) := ⟨_, Lib.hid rfl⟩
  go_wp2_with fail
  refine (progPut_any _ c n L _ bs m e0 (HS.out.mono FnR.mono HB6.out) hn hput hm).mono ?_
  rintro e w7 ⟨A7, c7, rfl, s7, hb⟩
  have HB7 := Lib.hid (HB6.out.trans hb)
  have T7 := Lib.hid s7
  have S7 := Lib.hid (S6.out.mono FnR.mono hb)
  have K7 := Lib.hid (K6.out.bel hb)
  have q7 := K7.out.cell 0 (v := .slice (some ⟨D, 0, none⟩) n cD) rfl
  clear hb s7 S6 K6 q6 HB6
  go_wp2_with fail
  refine (progPut_any _ cD n M _ cs m2 f0 S7.out hnM hput2 hm2).mono ?_
  rintro e w8 ⟨A8, c8, rfl, s8, hb⟩
  have HB8 := Lib.hid (HB7.out.trans hb)
  have T8 := Lib.hid (T7.out.mono (IntR.mono _) hb)
  have U8 := Lib.hid s8
  have S8 := Lib.hid (S7.out.mono FnR.mono hb)
  have K8 := Lib.hid (K7.out.bel hb)
  have p8 := (K0.out.bel HB8.out).cell 0 (v := .slice (some ⟨b, o, none⟩) n c) rfl
  have q8 := K8.out.cell 0 (v := .slice (some ⟨D, 0, none⟩) n cD) rfl
  clear hb s8 S7 K7 q7 HB7 T7
  have hcase : (e0 = 0 ∧ f0 = 0 ∧ m = m2 ∧ decide (bs = cs) = false) ∨ (e0 = 0 ∧ f0 = 1) ∨ e0 = 1 := by
    rcases put_cases L hput.out with ⟨h1, h2, h3⟩ | h1
    · rcases put_cases M hput2.out with ⟨k1, k2, k3⟩ | k1
      · refine .inl ⟨h1, k1, by rw [← hm.out, ← hm2.out, h3, k3, hLEN.out], decide_eq_false (fun he => ?_)⟩
        rw [h3, k3] at he
        exact hNE.out (bytes_inj h2 k2 (prog_ins HS.out h2) (prog_ins S8.out k2) he).symm
      · exact .inr (.inl ⟨h1, k1⟩)
    · exact .inr (.inr h1)
  rcases hcase with ⟨rfl, rfl, rfl, hne⟩ | ⟨rfl, rfl⟩ | rfl
  · have HNEB := Lib.hid hne
    clear hne
    go_wp2_with fail
    refine (bytes_at A7 A8 m m c7 c8 bs cs _ T8.out U8.out hm hm2 false HNEB).mono ?_
    rintro e w9 ⟨rfl, hb⟩
    have HB9 := Lib.hid (HB8.out.trans hb)
    have S9 := Lib.hid (S8.out.mono FnR.mono hb)
    have K9 := Lib.hid (K8.out.bel hb)
    have p9 := hb.cell p8
    have q9 := hb.cell q8
    clear hb S8 K8 p8 q8 HB8 T8 U8
    go_wp2_with fail
    refine (progSame_any _ _ n n c c L L true _ (HS.out.mono FnR.mono HB9.out) (HS.out.mono FnR.mono HB9.out) hn hn (Lib.hid (by simp))).mono ?_
    rintro e w10 ⟨rfl, hb⟩
    have HB10 := Lib.hid (HB9.out.trans hb)
    have S10 := Lib.hid (S9.out.mono FnR.mono hb)
    have p10 := hb.cell p9
    have q10 := hb.cell q9
    clear hb S9 p9 q9
    go_wp2_with fail
    refine (progSame_any _ _ n n c cD L M false _ (HS.out.mono FnR.mono HB10.out) S10.out hn hnM (Lib.hid (decide_eq_false (fun h => hNE.out h.symm)))).mono ?_
    rintro e w11 ⟨rfl, hb⟩
    have HB11 := Lib.hid (HB10.out.trans hb)
    have S11 := Lib.hid (S10.out.mono FnR.mono hb)
    have p11 := hb.cell p10
    have q11 := hb.cell q10
    clear hb S10 p10 q10
    go_wp2_with fail
    refine (progSame_any _ _ n n cD c M L false _ S11.out (HS.out.mono FnR.mono HB11.out) hnM hn (Lib.hid (decide_eq_false hNE.out))).mono ?_
    rintro e w12 ⟨rfl, hb⟩
    go_wp2_with fail
    go_ret
    exact ⟨by first | rfl | simp, HBa.out.trans (HB11.out.trans hb)⟩
  · have HB9 := HB8
    have S9 := S8
    have K9 := K8
    have p9 := p8
    have q9 := q8
    clear p8 q8
    go_wp2_with fail
    refine (progSame_any _ _ n n c c L L true _ (HS.out.mono FnR.mono HB9.out) (HS.out.mono FnR.mono HB9.out) hn hn (Lib.hid (by simp))).mono ?_
    rintro e w10 ⟨rfl, hb⟩
    have HB10 := Lib.hid (HB9.out.trans hb)
    have S10 := Lib.hid (S9.out.mono FnR.mono hb)
    have p10 := hb.cell p9
    have q10 := hb.cell q9
    clear hb S9 p9 q9
    go_wp2_with fail
    refine (progSame_any _ _ n n c cD L M false _ (HS.out.mono FnR.mono HB10.out) S10.out hn hnM (Lib.hid (decide_eq_false (fun h => hNE.out h.symm)))).mono ?_
    rintro e w11 ⟨rfl, hb⟩
    have HB11 := Lib.hid (HB10.out.trans hb)
    have S11 := Lib.hid (S10.out.mono FnR.mono hb)
    have p11 := hb.cell p10
    have q11 := hb.cell q10
    clear hb S10 p10 q10
    go_wp2_with fail
    refine (progSame_any _ _ n n cD c M L false _ S11.out (HS.out.mono FnR.mono HB11.out) hnM hn (Lib.hid (decide_eq_false hNE.out))).mono ?_
    rintro e w12 ⟨rfl, hb⟩
    go_wp2_with fail
    go_ret
    exact ⟨by first | rfl | simp, HBa.out.trans (HB11.out.trans hb)⟩
  · have HB9 := HB8
    have S9 := S8
    have K9 := K8
    have p9 := p8
    have q9 := q8
    clear p8 q8
    go_wp2_with fail
    refine (progSame_any _ _ n n c c L L true _ (HS.out.mono FnR.mono HB9.out) (HS.out.mono FnR.mono HB9.out) hn hn (Lib.hid (by simp))).mono ?_
    rintro e w10 ⟨rfl, hb⟩
    have HB10 := Lib.hid (HB9.out.trans hb)
    have S10 := Lib.hid (S9.out.mono FnR.mono hb)
    have p10 := hb.cell p9
    have q10 := hb.cell q9
    clear hb S9 p9 q9
    go_wp2_with fail
    refine (progSame_any _ _ n n c cD L M false _ (HS.out.mono FnR.mono HB10.out) S10.out hn hnM (Lib.hid (decide_eq_false (fun h => hNE.out h.symm)))).mono ?_
    rintro e w11 ⟨rfl, hb⟩
    have HB11 := Lib.hid (HB10.out.trans hb)
    have S11 := Lib.hid (S10.out.mono FnR.mono hb)
    have p11 := hb.cell p10
    have q11 := hb.cell q10
    clear hb S10 p10 q10
    go_wp2_with fail
    refine (progSame_any _ _ n n cD c M L false _ S11.out (HS.out.mono FnR.mono HB11.out) hnM hn (Lib.hid (decide_eq_false hNE.out))).mono ?_
    rintro e w12 ⟨rfl, hb⟩
    go_wp2_with fail
    go_ret
    exact ⟨by first | rfl | simp, HBa.out.trans (HB11.out.trans hb)⟩
end Go.Proofs.Ytcllifcafgiopaa
