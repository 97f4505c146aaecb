/- ProgTells: its walk. -/
import Derived.Test.YtcllifcafgiopaaPgRefGet
import Derived.Test.YtcllifcafgiopaaPgRefPut
import Derived.Test.YtcllifcafgiopaaHeldU
set_option linter.unusedVariables false
set_option linter.unusedSimpArgs false
namespace Go.Proofs.Ytcllifcafgiopaa
open Go.RowKit

set_option maxHeartbeats 8000000 in
set_option maxRecDepth 100000 in
theorem ProgTells_walk (C : Array Value) (L : List FnD) (B0 : Option Addr) (cb : Nat) (l : List Int) (i : Int) (Cf : Array Value) (f : FnD) (W : World) (hp : ProgR W C.toList L) (hl : Sl (IntR .u8) 1 W B0 cb l) (hi : (Lit.int .i64 i).wf = true) (hf : FnR W Cf.toList f) :
    Calls Try.prog 8 #[.agg C, .slice B0 l.length cb, .int .i64 i, .agg Cf] W fun e w' => e = .returned (.bool true) ∧ Bel W w' := by
  obtain ⟨A, c, hC, hsl⟩ := hp
  obtain rfl : C = #[.slice A L.length c] := by cases C; simpa using hC
  obtain ⟨B, cf, hCf, hsf, hwf⟩ := hf
  obtain rfl : Cf = #[.int .i64 f.args, .slice B f.code.length cf] := by cases Cf; simpa using hCf
  clear hC hCf hi
  obtain ⟨fa, code⟩ := f
  simp only at hsf hwf ⊢
  have HFA := Lib.hid hwf
  obtain ⟨n, hn0⟩ : ∃ n, L.length = n := ⟨_, rfl⟩
  have hn := Lib.hid hn0
  obtain ⟨nf, hnf0⟩ : ∃ n, code.length = n := ⟨_, rfl⟩
  have hnf := Lib.hid hnf0
  obtain ⟨q, hq0⟩ : ∃ q, l.length = q := ⟨_, rfl⟩
  have hq := Lib.hid hq0
  rw [hn0, hnf0, hq0]
  have HBa := Lib.hid (((Bel.refl W).alloc (.cells #[.slice A n c] 24)).alloc (.cells #[.int .i64 fa, .slice B nf cf] 38))
  have HS := Lib.hid (hsl.mono FnR.mono HBa.out)
  have HF := Lib.hid (hsf.mono InstR.mono HBa.out)
  have HL := Lib.hid (hl.mono (IntR.mono _) HBa.out)
  have K0 := Lib.hid ((Blk.new W 24 #[.slice A n c]).alloc (.cells #[.int .i64 fa, .slice B nf cf] 38))
  have K1 : Hid (Blk ((W.alloc (.cells #[.slice A n c] 24)).alloc (.cells #[.int .i64 fa, .slice B nf cf] 38)) (W.heap.size + 1) 38 #[.int .i64 fa, .slice B nf cf]) := Lib.hid (by
    have := Blk.new (W.alloc (.cells #[.slice A n c] 24)) 38 #[.int .i64 fa, .slice B nf cf]
    simpa using this)
  obtain ⟨fv, hfv⟩ : ∃ fv, Hid (fewB L = fv) := ⟨_, Lib.hid rfl⟩
  clear hsl hn0 hsf hnf0 hwf hl hq0
  go_enter Try.func8, Try.ntmps8
  go_wp2_with fail
  generalize (W.alloc (.cells #[.slice A n c] 24)).alloc (.cells #[.int .i64 fa, .slice B nf cf] 38) = W1 at *
  generalize W.heap.size = g at *
  refine (awake_any _).mono ?_
  rintro e w1 ⟨rfl, hb⟩
  have HB1 := Lib.hid hb
  clear hb
  have q1 := (K0.out.bel HB1.out).cell 0 rfl
  go_wp2_with fail
  refine (refFew_any A c n L fv _ (HS.out.mono FnR.mono HB1.out) hn hfv).mono ?_
  rintro e w2 ⟨rfl, hb⟩
  have HB_2 := Lib.hid (HB1.out.trans hb)
  clear hb q1 HB1
  cases fv
  · go_wp2_with fail
    go_ret
    exact ⟨rfl, HBa.out.trans HB_2.out⟩
  have q2 := (K0.out.bel HB_2.out).cell 0 (v := .slice A n c) rfl
  have f20 := (K1.out.bel HB_2.out).cell 0 rfl
  have f21 := (K1.out.bel HB_2.out).cell 1 rfl
  by_cases h8 : (80 : Int) < nf
  · go_wp2_with fail
    go_ret
    exact ⟨rfl, HBa.out.trans HB_2.out⟩
  by_cases h5 : (5000 : Int) < q
  · go_wp2_with fail
    go_ret
    exact ⟨rfl, HBa.out.trans HB_2.out⟩
  go_wp2_with fail
  have hq5 : q ≤ 5000 := by omega
  clear h8 h5 q2 f20 f21
  have HFEW := Lib.hid (few_facts hfv.out)
  have hn12 : n ≤ 12 := by rw [← hn.out]; exact HFEW.out.1
  have HWL := Lib.hid (sl_wf HS.out)
  refine (own_any A c n L _ (HS.out.mono FnR.mono HB_2.out) hn (by omega) (Lib.hid (fun f hf => Nat.le_trans (HFEW.out.2 f hf) (by decide)))).mono ?_
  rintro e w3 ⟨zs, v, rfl, hzs, ho⟩
  have HZN : zs.length = n := by rw [← hn.out, ← hzs, List.length_map]
  obtain ⟨A3, c3, hv3, hs3⟩ := ho.sl (by rw [hzs]; exact HWL.out)
  rw [HZN] at hv3
  subst hv3
  rw [hzs] at hs3
  have hx3 := (Bel.refl w3).alloc (.cells #[.slice A3 n c3] 24)
  have hb3 := ho.bel.trans hx3
  clear ho hzs HZN
  have HB_3 := Lib.hid (HB_2.out.trans hb3)
  clear HB_2 hb3
  have SW_3 := Lib.hid (hs3.mono FnR.mono hx3)
  have KW_3 := Lib.hid (Blk.new w3 24 #[.slice A3 n c3])
  have p3 := (K0.out.bel HB_3.out).cell 0 (v := .slice A n c) rfl
  clear hs3 hx3
  go_wp2_with fail
  generalize w3.alloc (.cells #[.slice A3 n c3] 24) = W3 at *
  generalize w3.heap.size = gw at *
  obtain ⟨bs, e0, hput⟩ : ∃ bs e0, Hid (putP L = (bs, e0)) := ⟨_, _, Lib.hid rfl⟩
  obtain ⟨m, hm⟩ : ∃ m, Hid (bs.length = m) := ⟨_, Lib.hid rfl⟩
  refine (progPut_any A c n L _ bs m e0 (HS.out.mono FnR.mono HB_3.out) hn hput hm).mono ?_
  rintro e w4 ⟨A4, c4, rfl, s4, hb4⟩
  have HB_4 := Lib.hid (HB_3.out.trans hb4)
  have SW_4 := Lib.hid (SW_3.out.mono FnR.mono hb4)
  have KW_4 := Lib.hid (KW_3.out.bel hb4)
  clear HB_3 SW_3 KW_3 hb4
  have T_4 := Lib.hid s4
  have p4 := (K0.out.bel HB_4.out).cell 0 (v := .slice A n c) rfl
  clear s4 p3
  go_wp2_with fail
  refine (refPut3_any A c n L _ bs m e0 (HS.out.mono FnR.mono HB_4.out) hn hput hm).mono ?_
  rintro e w5 ⟨A5, c5, rfl, s5, hb5⟩
  have HB_5 := Lib.hid (HB_4.out.trans hb5)
  have SW_5 := Lib.hid (SW_4.out.mono FnR.mono hb5)
  have KW_5 := Lib.hid (KW_4.out.bel hb5)
  have T_5 := Lib.hid (T_4.out.mono (IntR.mono _) hb5)
  clear HB_4 SW_4 KW_4 T_4 hb5
  have U_5 := Lib.hid s5
  clear s5 p4
  go_wp2_with fail
  refine (bytes_at A4 A5 m m c4 c5 bs bs _ T_5.out U_5.out hm hm true (Lib.hid (by simp))).mono ?_
  rintro e w6 ⟨rfl, hb6⟩
  clear T_5 U_5
  have HB_6 := Lib.hid (HB_5.out.trans hb6)
  have SW_6 := Lib.hid (SW_5.out.mono FnR.mono hb6)
  have KW_6 := Lib.hid (KW_5.out.bel hb6)
  clear HB_5 SW_5 KW_5 hb6
  go_wp2_with fail
  obtain ⟨Lx, ex, hget⟩ : ∃ Lx ex, Hid (getP l = (Lx, ex)) := ⟨_, _, Lib.hid rfl⟩
  obtain ⟨p, hpx⟩ : ∃ p, Hid (Lx.length = p) := ⟨_, Lib.hid rfl⟩
  refine (progGet_any B0 cb q l _ (HL.out.mono (IntR.mono _) HB_6.out) hq Lx ex p hget hpx).mono ?_
  rintro e w7 ⟨A7, c7, rfl, s7, hb7'⟩
  have hx7 := (Bel.refl w7).alloc (.cells #[.slice A7 p c7] 24)
  have hb7 := hb7'.trans hx7
  have HB_7 := Lib.hid (HB_6.out.trans hb7)
  have SW_7 := Lib.hid (SW_6.out.mono FnR.mono hb7)
  have KW_7 := Lib.hid (KW_6.out.bel hb7)
  clear HB_6 SW_6 KW_6 hb7
  have SX_7 := Lib.hid (s7.mono FnR.mono hx7)
  have KX_7 := Lib.hid (Blk.new w7 24 #[.slice A7 p c7])
  clear s7 hx7 hb7'
  go_wp2_with fail
  generalize w7.alloc (.cells #[.slice A7 p c7] 24) = W7 at *
  generalize w7.heap.size = gx at *
  refine (refGet3_any B0 cb q l _ (HL.out.mono (IntR.mono _) HB_7.out) hq Lx ex p hget hpx (by omega)).mono ?_
  rintro e w8 ⟨A8, c8, rfl, s8, hb8'⟩
  have hx8 := (Bel.refl w8).alloc (.cells #[.slice A8 p c8] 24)
  have hb8 := hb8'.trans hx8
  have HB_8 := Lib.hid (HB_7.out.trans hb8)
  have SW_8 := Lib.hid (SW_7.out.mono FnR.mono hb8)
  have KW_8 := Lib.hid (KW_7.out.bel hb8)
  have SX_8 := Lib.hid (SX_7.out.mono FnR.mono hb8)
  have KX_8 := Lib.hid (KX_7.out.bel hb8)
  clear HB_7 SW_7 KW_7 SX_7 KX_7 hb8
  have SY_8 := Lib.hid (s8.mono FnR.mono hx8)
  have KY_8 := Lib.hid (Blk.new w8 24 #[.slice A8 p c8])
  have x8 := KX_8.out.cell 0 (v := .slice A7 p c7) rfl
  clear s8 hx8 hb8'
  go_wp2_with fail
  generalize w8.alloc (.cells #[.slice A8 p c8] 24) = W8 at *
  generalize w8.heap.size = gy at *
  refine (refSame_any A7 A8 p p c7 c8 Lx Lx true _ SX_8.out SY_8.out hpx hpx (Lib.hid (by simp))).mono ?_
  rintro e w9 ⟨rfl, hb9⟩
  clear x8 SY_8 KY_8
  have HB_9 := Lib.hid (HB_8.out.trans hb9)
  have SW_9 := Lib.hid (SW_8.out.mono FnR.mono hb9)
  have KW_9 := Lib.hid (KW_8.out.bel hb9)
  have SX_9 := Lib.hid (SX_8.out.mono FnR.mono hb9)
  have KX_9 := Lib.hid (KX_8.out.bel hb9)
  clear HB_8 SW_8 KW_8 SX_8 KX_8 hb9
  have p9 := (K0.out.bel HB_9.out).cell 0 (v := .slice A n c) rfl
  have f90 := (K1.out.bel HB_9.out).cell 0 (v := .int .i64 fa) rfl
  have f91 := (K1.out.bel HB_9.out).cell 1 (v := .slice B nf cf) rfl
  go_wp2_with fail
  obtain ⟨Q, er, hsw⟩ : ∃ Q er, Hid (swapP L i ⟨fa, code⟩ = (Q, er)) := ⟨_, _, Lib.hid rfl⟩
  obtain ⟨ms, hms⟩ : ∃ ms, Hid (Q.length = ms) := ⟨_, Lib.hid rfl⟩
  refine (swap_any A c n L i fa B cf nf code _ _ (Lib.hid (Bel.refl _)) (HS.out.mono FnR.mono HB_9.out) (HF.out.mono InstR.mono HB_9.out) hn hnf HFA Q er ms hsw hms).mono ?_
  rintro e w10 ⟨A10, c10, rfl, s10, -, hb10'⟩
  have hx10 := (Bel.refl w10).alloc (.cells #[.slice A10 ms c10] 24)
  have hb10 := hb10'.trans hx10
  have HB_10 := Lib.hid (HB_9.out.trans hb10)
  have SW_10 := Lib.hid (SW_9.out.mono FnR.mono hb10)
  have KW_10 := Lib.hid (KW_9.out.bel hb10)
  have SX_10 := Lib.hid (SX_9.out.mono FnR.mono hb10)
  have KX_10 := Lib.hid (KX_9.out.bel hb10)
  clear HB_9 SW_9 KW_9 SX_9 KX_9 hb10
  have SS_10 := Lib.hid (s10.mono FnR.mono hx10)
  have KS_10 := Lib.hid (Blk.new w10 24 #[.slice A10 ms c10])
  have p10 := (K0.out.bel HB_10.out).cell 0 (v := .slice A n c) rfl
  have f100 := (K1.out.bel HB_10.out).cell 0 (v := .int .i64 fa) rfl
  have f101 := (K1.out.bel HB_10.out).cell 1 (v := .slice B nf cf) rfl
  clear s10 hx10 hb10' p9 f90 f91
  go_wp2_with fail
  generalize w10.alloc (.cells #[.slice A10 ms c10] 24) = W10 at *
  generalize w10.heap.size = gs at *
  refine (refSwap3_any A c n L i fa B cf nf code _ (HS.out.mono FnR.mono HB_10.out) (HF.out.mono InstR.mono HB_10.out) hn hnf HFA Q er ms hsw hms).mono ?_
  rintro e w11 ⟨A11, c11, rfl, s11, hb11'⟩
  have hx11 := (Bel.refl w11).alloc (.cells #[.slice A11 ms c11] 24)
  have hb11 := hb11'.trans hx11
  have HB_11 := Lib.hid (HB_10.out.trans hb11)
  have SW_11 := Lib.hid (SW_10.out.mono FnR.mono hb11)
  have KW_11 := Lib.hid (KW_10.out.bel hb11)
  have SX_11 := Lib.hid (SX_10.out.mono FnR.mono hb11)
  have KX_11 := Lib.hid (KX_10.out.bel hb11)
  have SS_11 := Lib.hid (SS_10.out.mono FnR.mono hb11)
  have KS_11 := Lib.hid (KS_10.out.bel hb11)
  clear HB_10 SW_10 KW_10 SX_10 KX_10 SS_10 KS_10 hb11
  have ST_11 := Lib.hid (s11.mono FnR.mono hx11)
  have KT_11 := Lib.hid (Blk.new w11 24 #[.slice A11 ms c11])
  have x11 := KS_11.out.cell 0 (v := .slice A10 ms c10) rfl
  clear s11 hx11 hb11' p10 f100 f101
  go_wp2_with fail
  generalize w11.alloc (.cells #[.slice A11 ms c11] 24) = W11 at *
  generalize w11.heap.size = gt at *
  refine (refSame_any A10 A11 ms ms c10 c11 Q Q true _ SS_11.out ST_11.out hms hms (Lib.hid (by simp))).mono ?_
  rintro e W12 ⟨rfl, hb12⟩
  clear x11 SS_11 KS_11 ST_11 KT_11
  have HB_12 := Lib.hid (HB_11.out.trans hb12)
  have SW_12 := Lib.hid (SW_11.out.mono FnR.mono hb12)
  have KW_12 := Lib.hid (KW_11.out.bel hb12)
  have SX_12 := Lib.hid (SX_11.out.mono FnR.mono hb12)
  have KX_12 := Lib.hid (KX_11.out.bel hb12)
  clear HB_11 SW_11 KW_11 SX_11 KX_11 hb12
  go_wp2_with fail
  have SD := (Bel.refl W12).drew
  have P0 := fun (w' : World) (h : Bel W12 w') => h.cell ((K0.out.bel HB_12.out).cell 0 (v := .slice A n c) rfl)
  have P1 := fun (w' : World) (h : Bel W12 w') => h.cell (KW_12.out.cell 0 (v := .slice A3 n c3) rfl)
  have P2 := fun (w' : World) (h : Bel W12 w') => h.cell (KX_12.out.cell 0 (v := .slice A7 p c7) rfl)
  obtain ⟨bm, hbm⟩ : ∃ bm, Hid (progMay L = bm) := ⟨_, Lib.hid rfl⟩
  obtain ⟨bx, hbx⟩ : ∃ bx, Hid (decide (L = Lx) = bx) := ⟨_, Lib.hid rfl⟩
  have tm : (bm == bm) = true := by simp
  have tx : (bx == bx) = true := by simp
  refine wp_region_T (fun w' => Bel W12 w') (fun j => false) (by kernel_rfl) ?_
  refine wpAnyU_take (i := 0) (v := ?v0) rfl (by kernel_rfl) (by kernel_rfl) (by kernel_rfl) (by kernel_rfl) (fun _ _ _ h => h) ?hy0 SD ?rest0
  case hy0 => first | (refine Or.inl ⟨by rfl, ?_⟩; (intro w' hSw; go_simp) <;> with_reducible rfl) | (refine Or.inr ⟨by rfl, ?_⟩; with_reducible rfl)
  try simp only [List.getElem_toArray, List.getElem_cons_zero, List.getElem_cons_succ, Act.put, List.setIfInBounds_toArray, List.set_cons_zero, List.set_cons_succ]
  refine wpAnyU_take (i := 1) (v := ?v1) rfl (by kernel_rfl) (by kernel_rfl) (by kernel_rfl) (by kernel_rfl) (fun _ _ _ h => h) ?hy1 SD ?rest1
  case hy1 => first | (refine Or.inl ⟨by rfl, ?_⟩; (intro w' hSw; go_simp) <;> with_reducible rfl) | (refine Or.inr ⟨by rfl, ?_⟩; with_reducible rfl)
  try simp only [List.getElem_toArray, List.getElem_cons_zero, List.getElem_cons_succ, Act.put, List.setIfInBounds_toArray, List.set_cons_zero, List.set_cons_succ]
  refine wpAnyU_take (i := 2) (v := ?v2) rfl (by kernel_rfl) (by kernel_rfl) (by kernel_rfl) (by kernel_rfl) (fun _ _ _ h => h) ?hy2 SD ?rest2
  case hy2 => first | (refine Or.inl ⟨by rfl, ?_⟩; (intro w' hSw; go_simp) <;> with_reducible rfl) | (refine Or.inr ⟨by rfl, ?_⟩; with_reducible rfl)
  try simp only [List.getElem_toArray, List.getElem_cons_zero, List.getElem_cons_succ, Act.put, List.setIfInBounds_toArray, List.set_cons_zero, List.set_cons_succ]
  refine wpAnyU_take (i := 3) (v := ?v3) rfl (by kernel_rfl) (by kernel_rfl) (by kernel_rfl) (by kernel_rfl) (fun _ _ _ h => h) ?hy3 SD ?rest3
  case hy3 => first | (refine Or.inl ⟨by rfl, ?_⟩; (intro w' hSw; go_simp) <;> with_reducible rfl) | (refine Or.inr ⟨by rfl, ?_⟩; with_reducible rfl)
  try simp only [List.getElem_toArray, List.getElem_cons_zero, List.getElem_cons_succ, Act.put, List.setIfInBounds_toArray, List.set_cons_zero, List.set_cons_succ]
  refine wpAnyU_take (i := 4) (v := ?v4) rfl (by kernel_rfl) (by kernel_rfl) (by kernel_rfl) (by kernel_rfl) (fun _ _ _ h => h) ?hy4 SD ?rest4
  case hy4 => first | (refine Or.inl ⟨by rfl, ?_⟩; (intro w' hSw; go_simp) <;> with_reducible rfl) | (refine Or.inr ⟨by rfl, ?_⟩; with_reducible rfl)
  try simp only [List.getElem_toArray, List.getElem_cons_zero, List.getElem_cons_succ, Act.put, List.setIfInBounds_toArray, List.set_cons_zero, List.set_cons_succ]
  refine wpAnyU_take (i := 5) (v := ?v5) rfl (by kernel_rfl) (by kernel_rfl) (by kernel_rfl) (by kernel_rfl) (fun _ _ _ h => h) ?hy5 SD ?rest5
  case hy5 => first | (refine Or.inl ⟨by rfl, ?_⟩; (intro w' hSw; go_simp) <;> with_reducible rfl) | (refine Or.inr ⟨by rfl, ?_⟩; with_reducible rfl)
  try simp only [List.getElem_toArray, List.getElem_cons_zero, List.getElem_cons_succ, Act.put, List.setIfInBounds_toArray, List.set_cons_zero, List.set_cons_succ]
  refine wpAnyU_take (i := 6) (v := ?v6) rfl (by kernel_rfl) (by kernel_rfl) (by kernel_rfl) (by kernel_rfl) (fun _ _ _ h => h) ?hy6 SD ?rest6
  case hy6 => first | (refine Or.inl ⟨by rfl, ?_⟩; (intro w' hSw; go_simp) <;> with_reducible rfl) | (refine Or.inr ⟨by rfl, ?_⟩; with_reducible rfl)
  try simp only [List.getElem_toArray, List.getElem_cons_zero, List.getElem_cons_succ, Act.put, List.setIfInBounds_toArray, List.set_cons_zero, List.set_cons_succ]
  refine wpAnyU_take (i := 7) (v := ?v7) rfl (by kernel_rfl) (by kernel_rfl) (by kernel_rfl) (by kernel_rfl) (fun _ _ _ h => h) ?hy7 SD ?rest7
  case hy7 => first | (refine Or.inl ⟨by rfl, ?_⟩; (intro w' hSw; go_simp) <;> with_reducible rfl) | (refine Or.inr ⟨by rfl, ?_⟩; with_reducible rfl)
  try simp only [List.getElem_toArray, List.getElem_cons_zero, List.getElem_cons_succ, Act.put, List.setIfInBounds_toArray, List.set_cons_zero, List.set_cons_succ]
  refine wpAnyU_take (i := 8) (v := ?v8) rfl (by kernel_rfl) (by kernel_rfl) (by kernel_rfl) (by kernel_rfl) (fun _ _ _ h => h) ?hy8 SD ?rest8
  case hy8 => first | (refine Or.inl ⟨by rfl, ?_⟩; (intro w' hSw; go_simp) <;> with_reducible rfl) | (refine Or.inr ⟨by rfl, ?_⟩; with_reducible rfl)
  try simp only [List.getElem_toArray, List.getElem_cons_zero, List.getElem_cons_succ, Act.put, List.setIfInBounds_toArray, List.set_cons_zero, List.set_cons_succ]
  refine wpAnyU_take (i := 9) (v := ?v9) rfl (by kernel_rfl) (by kernel_rfl) (by kernel_rfl) (by kernel_rfl) (fun _ _ _ h => h) ?hy9 SD ?rest9
  case hy9 => first | (refine Or.inl ⟨by rfl, ?_⟩; (intro w' hSw; go_simp) <;> with_reducible rfl) | (refine Or.inr ⟨by rfl, ?_⟩; with_reducible rfl)
  try simp only [List.getElem_toArray, List.getElem_cons_zero, List.getElem_cons_succ, Act.put, List.setIfInBounds_toArray, List.set_cons_zero, List.set_cons_succ]
  refine wpAnyT_one (i := 10) (by kernel_rfl) rfl (fun K hK => ?_)
  go_simp
  go_at_call 13
  refine (refSame_any A A3 n n c c3 L L true _ (HS.out.mono FnR.mono (HB_12.out.trans SD)) (SW_12.out.mono FnR.mono SD) hn hn (Lib.hid (by simp))).mono ?_
  rintro en w13 ⟨rfl, hc13⟩
  have S13 : Bel W12 w13 := SD.trans hc13
  dsimp only
  refine hK.out _ _ (fun _ => S13) ?_
  clear hK K
  try simp only [List.getElem_toArray, List.getElem_cons_zero, List.getElem_cons_succ, Act.put, List.setIfInBounds_toArray, List.set_cons_zero, List.set_cons_succ]
  refine wpAnyU_take (i := 11) (v := ?v11) rfl (by kernel_rfl) (by kernel_rfl) (by kernel_rfl) (by kernel_rfl) (fun _ _ _ h => h) ?hy11 S13 ?rest11
  case hy11 => first | (refine Or.inl ⟨by rfl, ?_⟩; (intro w' hSw; go_simp) <;> with_reducible rfl) | (refine Or.inr ⟨by rfl, ?_⟩; with_reducible rfl)
  try simp only [List.getElem_toArray, List.getElem_cons_zero, List.getElem_cons_succ, Act.put, List.setIfInBounds_toArray, List.set_cons_zero, List.set_cons_succ]
  refine wpAnyU_take (i := 12) (v := ?v12) rfl (by kernel_rfl) (by kernel_rfl) (by kernel_rfl) (by kernel_rfl) (fun _ _ _ h => h) ?hy12 S13 ?rest12
  case hy12 => first | (refine Or.inl ⟨by rfl, ?_⟩; (intro w' hSw; go_simp) <;> with_reducible rfl) | (refine Or.inr ⟨by rfl, ?_⟩; with_reducible rfl)
  try simp only [List.getElem_toArray, List.getElem_cons_zero, List.getElem_cons_succ, Act.put, List.setIfInBounds_toArray, List.set_cons_zero, List.set_cons_succ]
  refine wpAnyU_take (i := 13) (v := ?v13) rfl (by kernel_rfl) (by kernel_rfl) (by kernel_rfl) (by kernel_rfl) (fun _ _ _ h => h) ?hy13 S13 ?rest13
  case hy13 => first | (refine Or.inl ⟨by rfl, ?_⟩; (intro w' hSw; go_simp) <;> with_reducible rfl) | (refine Or.inr ⟨by rfl, ?_⟩; with_reducible rfl)
  try simp only [List.getElem_toArray, List.getElem_cons_zero, List.getElem_cons_succ, Act.put, List.setIfInBounds_toArray, List.set_cons_zero, List.set_cons_succ]
  refine wpAnyU_take (i := 15) (v := ?v15) rfl (by kernel_rfl) (by kernel_rfl) (by kernel_rfl) (by kernel_rfl) (fun _ _ _ h => h) ?hy15 S13 ?rest15
  case hy15 => first | (refine Or.inl ⟨by rfl, ?_⟩; (intro w' hSw; go_simp) <;> with_reducible rfl) | (refine Or.inr ⟨by rfl, ?_⟩; with_reducible rfl)
  try simp only [List.getElem_toArray, List.getElem_cons_zero, List.getElem_cons_succ, Act.put, List.setIfInBounds_toArray, List.set_cons_zero, List.set_cons_succ]
  refine wpAnyT_one (i := 14) (by kernel_rfl) rfl (fun K hK => ?_)
  go_simp
  go_at_call 15
  refine (progmay_any A c n L bm _ (HS.out.mono FnR.mono (HB_12.out.trans S13)) hn hbm).mono ?_
  rintro en w14 ⟨rfl, hc14⟩
  have S14 : Bel W12 w14 := S13.trans hc14
  dsimp only
  refine hK.out _ _ (fun _ => S14) ?_
  clear hK K
  try simp only [List.getElem_toArray, List.getElem_cons_zero, List.getElem_cons_succ, Act.put, List.setIfInBounds_toArray, List.set_cons_zero, List.set_cons_succ]
  refine wpAnyT_one (i := 16) (by kernel_rfl) rfl (fun K hK => ?_)
  go_simp
  go_at_call 22
  refine (refProgMay_any A c n L bm _ (HS.out.mono FnR.mono (HB_12.out.trans S14)) hn hbm).mono ?_
  rintro en w15 ⟨rfl, hc15⟩
  have S15 : Bel W12 w15 := S14.trans hc15
  dsimp only
  refine hK.out _ _ (fun _ => S15) ?_
  clear hK K
  try simp only [List.getElem_toArray, List.getElem_cons_zero, List.getElem_cons_succ, Act.put, List.setIfInBounds_toArray, List.set_cons_zero, List.set_cons_succ]
  refine wpAnyU_take (i := 17) (v := ?v17) rfl (by kernel_rfl) (by kernel_rfl) (by kernel_rfl) (by kernel_rfl) (fun _ _ _ h => h) ?hy17 S15 ?rest17
  case hy17 => first | (refine Or.inl ⟨by rfl, ?_⟩; (intro w' hSw; go_simp) <;> with_reducible rfl) | (refine Or.inr ⟨by rfl, ?_⟩; with_reducible rfl)
  try simp only [List.getElem_toArray, List.getElem_cons_zero, List.getElem_cons_succ, Act.put, List.setIfInBounds_toArray, List.set_cons_zero, List.set_cons_succ]
  refine wpAnyU_take (i := 18) (v := ?v18) rfl (by kernel_rfl) (by kernel_rfl) (by kernel_rfl) (by kernel_rfl) (fun _ _ _ h => h) ?hy18 S15 ?rest18
  case hy18 => first | (refine Or.inl ⟨by rfl, ?_⟩; (intro w' hSw; go_simp) <;> with_reducible rfl) | (refine Or.inr ⟨by rfl, ?_⟩; with_reducible rfl)
  try simp only [List.getElem_toArray, List.getElem_cons_zero, List.getElem_cons_succ, Act.put, List.setIfInBounds_toArray, List.set_cons_zero, List.set_cons_succ]
  refine wpAnyU_take (i := 19) (v := ?v19) rfl (by kernel_rfl) (by kernel_rfl) (by kernel_rfl) (by kernel_rfl) (fun _ _ _ h => h) ?hy19 S15 ?rest19
  case hy19 => first | (refine Or.inl ⟨by rfl, ?_⟩; (intro w' hSw; go_simp) <;> with_reducible rfl) | (refine Or.inr ⟨by rfl, ?_⟩; with_reducible rfl)
  try simp only [List.getElem_toArray, List.getElem_cons_zero, List.getElem_cons_succ, Act.put, List.setIfInBounds_toArray, List.set_cons_zero, List.set_cons_succ]
  refine wpAnyU_take (i := 20) (v := ?v20) rfl (by kernel_rfl) (by kernel_rfl) (by kernel_rfl) (by kernel_rfl) (fun _ _ _ h => h) ?hy20 S15 ?rest20
  case hy20 => first | (refine Or.inl ⟨by rfl, ?_⟩; (intro w' hSw; go_simp) <;> with_reducible rfl) | (refine Or.inr ⟨by rfl, ?_⟩; with_reducible rfl)
  try simp only [List.getElem_toArray, List.getElem_cons_zero, List.getElem_cons_succ, Act.put, List.setIfInBounds_toArray, List.set_cons_zero, List.set_cons_succ]
  refine wpAnyU_take (i := 21) (v := ?v21) rfl (by kernel_rfl) (by kernel_rfl) (by kernel_rfl) (by kernel_rfl) (fun _ _ _ h => h) ?hy21 S15 ?rest21
  case hy21 => first | (refine Or.inl ⟨by rfl, ?_⟩; (intro w' hSw; go_simp) <;> with_reducible rfl) | (refine Or.inr ⟨by rfl, ?_⟩; with_reducible rfl)
  try simp only [List.getElem_toArray, List.getElem_cons_zero, List.getElem_cons_succ, Act.put, List.setIfInBounds_toArray, List.set_cons_zero, List.set_cons_succ]
  refine wpAnyU_take (i := 23) (v := ?v23) rfl (by kernel_rfl) (by kernel_rfl) (by kernel_rfl) (by kernel_rfl) (fun _ _ _ h => h) ?hy23 S15 ?rest23
  case hy23 => first | (refine Or.inl ⟨by rfl, ?_⟩; (intro w' hSw; go_simp) <;> with_reducible rfl) | (refine Or.inr ⟨by rfl, ?_⟩; with_reducible rfl)
  try simp only [List.getElem_toArray, List.getElem_cons_zero, List.getElem_cons_succ, Act.put, List.setIfInBounds_toArray, List.set_cons_zero, List.set_cons_succ]
  refine wpAnyU_take (i := 24) (v := ?v24) rfl (by kernel_rfl) (by kernel_rfl) (by kernel_rfl) (by kernel_rfl) (fun _ _ _ h => h) ?hy24 S15 ?rest24
  case hy24 => first | (refine Or.inl ⟨by rfl, ?_⟩; (intro w' hSw; go_simp) <;> with_reducible rfl) | (refine Or.inr ⟨by rfl, ?_⟩; with_reducible rfl)
  try simp only [List.getElem_toArray, List.getElem_cons_zero, List.getElem_cons_succ, Act.put, List.setIfInBounds_toArray, List.set_cons_zero, List.set_cons_succ]
  refine wpAnyT_one (i := 22) (by kernel_rfl) rfl (fun K hK => ?_)
  go_simp
  go_at_call 16
  refine (progSame_any A A7 n p c c7 L Lx bx _ (HS.out.mono FnR.mono (HB_12.out.trans S15)) (SX_12.out.mono FnR.mono S15) hn hpx hbx).mono ?_
  rintro en w16 ⟨rfl, hc16⟩
  have S16 : Bel W12 w16 := S15.trans hc16
  dsimp only
  refine hK.out _ _ (fun _ => S16) ?_
  clear hK K
  try simp only [List.getElem_toArray, List.getElem_cons_zero, List.getElem_cons_succ, Act.put, List.setIfInBounds_toArray, List.set_cons_zero, List.set_cons_succ]
  refine wpAnyT_one (i := 25) (by kernel_rfl) rfl (fun K hK => ?_)
  go_simp
  go_at_call 13
  refine (refSame_any A A7 n p c c7 L Lx bx _ (HS.out.mono FnR.mono (HB_12.out.trans S16)) (SX_12.out.mono FnR.mono S16) hn hpx hbx).mono ?_
  rintro en w17 ⟨rfl, hc17⟩
  have S17 : Bel W12 w17 := S16.trans hc17
  dsimp only
  refine hK.out _ _ (fun _ => S17) ?_
  clear hK K
  try simp only [List.getElem_toArray, List.getElem_cons_zero, List.getElem_cons_succ, Act.put, List.setIfInBounds_toArray, List.set_cons_zero, List.set_cons_succ]
  refine wpAnyU_take (i := 26) (v := ?v26) rfl (by kernel_rfl) (by kernel_rfl) (by kernel_rfl) (by kernel_rfl) (fun _ _ _ h => h) ?hy26 S17 ?rest26
  case hy26 => first | (refine Or.inl ⟨by rfl, ?_⟩; (intro w' hSw; go_simp) <;> with_reducible rfl) | (refine Or.inr ⟨by rfl, ?_⟩; with_reducible rfl)
  try simp only [List.getElem_toArray, List.getElem_cons_zero, List.getElem_cons_succ, Act.put, List.setIfInBounds_toArray, List.set_cons_zero, List.set_cons_succ]
  refine wpAnyU_take (i := 27) (v := ?v27) rfl (by kernel_rfl) (by kernel_rfl) (by kernel_rfl) (by kernel_rfl) (fun _ _ _ h => h) ?hy27 S17 ?rest27
  case hy27 => first | (refine Or.inl ⟨by rfl, ?_⟩; (intro w' hSw; go_simp) <;> with_reducible rfl) | (refine Or.inr ⟨by rfl, ?_⟩; with_reducible rfl)
  try simp only [List.getElem_toArray, List.getElem_cons_zero, List.getElem_cons_succ, Act.put, List.setIfInBounds_toArray, List.set_cons_zero, List.set_cons_succ]
  refine wpAnyT_one (i := 28) (by kernel_rfl) rfl (fun K hK => ?_)
  go_simp
  refine hK.out _ _ (fun _ => S17) ?_
  clear hK K
  try simp only [List.getElem_toArray, List.getElem_cons_zero, List.getElem_cons_succ, Act.put, List.setIfInBounds_toArray, List.set_cons_zero, List.set_cons_succ]
  refine wpAnyT_done (by kernel_rfl) ?_ _
  refine NoPanic.normal ?_
  clear P0 P1 P2
  go_wp2
  go_ret
  exact ⟨by first | rfl | simp, HBa.out.trans (HB_12.out.trans S17)⟩
end Go.Proofs.Ytcllifcafgiopaa
