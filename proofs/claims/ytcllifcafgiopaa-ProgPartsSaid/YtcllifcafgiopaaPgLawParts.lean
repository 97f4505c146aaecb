/- ProgParts: its walk. -/
import Derived.Test.YtcllifcafgiopaaPgOwn
import Derived.Test.YtcllifcafgiopaaHeldU
set_option linter.unusedVariables false
set_option linter.unusedSimpArgs false
namespace Go.Proofs.Ytcllifcafgiopaa
open Go.RowKit

theorem progBytes_cons (L : List FnD) : progBytes L = 88 :: 86 :: (L.length : Int) :: L.flatMap FnD.bytes := by
  unfold progBytes
  simp
theorem parts_bytes {L : List FnD} {f : FnD} (h1 : progMay L = true) (h2 : progMay (L ++ [f]) = true) : L.length + 1 ≤ 8 ∧ 3 < (progBytes L).length ∧ (progBytes L).length < (progBytes (L ++ [f])).length ∧ (progBytes L).getD 2 0 = L.length ∧ (progBytes (L ++ [f])).getD 2 0 = (L.length : Int) + 1 ∧ ((progBytes (L ++ [f])).take (progBytes L).length).drop 3 = (progBytes L).drop 3 := by
  have h3 := (progMay_iff.1 h2).n8
  have h4 := (progMay_iff.1 h1).n0
  rw [List.length_append, List.length_singleton] at h3
  have hx : progBytes (L ++ [f]) = 88 :: 86 :: ((L.length : Int) + 1) :: (L.flatMap FnD.bytes ++ f.bytes) := by
    rw [progBytes_cons, List.length_append, List.length_singleton, List.flatMap_append, List.flatMap_singleton]
    rfl
  have hf := fnBytes_len f
  have hpos : 0 < (L.flatMap FnD.bytes).length := by
    cases L with
    | nil => simp at h4
    | cons a L =>
      rw [List.flatMap_cons, List.length_append, fnBytes_len]
      omega
  rw [hx, progBytes_cons]
  refine ⟨h3, ?_, ?_, rfl, rfl, ?_⟩
  · simp only [List.length_cons]; omega
  · simp only [List.length_cons, List.length_append]; omega
  · simp only [List.length_cons, List.take_succ_cons, List.drop_succ_cons, List.drop_zero]
    exact List.take_left
theorem parts_case {L : List FnD} {f : FnD} {bs cs : List Int} {e g : Int} (h1 : putP L = (bs, e)) (h2 : putP (L ++ [f]) = (cs, g)) : (e = 0 ∧ g = 0 ∧ progMay L = true ∧ progMay (L ++ [f]) = true) ∨ (e = 0 ∧ g = 1) ∨ (e = 1 ∧ g = 1) ∨ (e = 1 ∧ g = 0 ∧ L = []) := by
  unfold putP at h1 h2
  by_cases k1 : progMay L = true
  · rw [if_pos k1] at h1
    by_cases k2 : progMay (L ++ [f]) = true
    · rw [if_pos k2] at h2
      exact .inl ⟨(Prod.mk.inj h1).2.symm, (Prod.mk.inj h2).2.symm, k1, k2⟩
    · rw [if_neg k2] at h2
      exact .inr (.inl ⟨(Prod.mk.inj h1).2.symm, (Prod.mk.inj h2).2.symm⟩)
  · rw [if_neg k1] at h1
    by_cases k2 : progMay (L ++ [f]) = true
    · rw [if_pos k2] at h2
      refine .inr (.inr (.inr ⟨(Prod.mk.inj h1).2.symm, (Prod.mk.inj h2).2.symm, ?_⟩))
      by_cases h0 : L = []
      · exact h0
      · exfalso
        apply k1
        have hl : 0 < L.length := List.length_pos_iff.2 h0
        have hP := progMay_iff.1 k2
        have ha := hP.a0
        have h8 := hP.n8
        rw [List.length_append, List.length_singleton] at h8
        refine progMay_iff.2 ⟨hl, by omega, ?_, fun j hj => ?_⟩
        · cases L with
          | nil => simp at hl
          | cons a L => simpa using ha
        · have hj' : j < (L ++ [f]).length := by rw [List.length_append]; omega
          have := hP.fine j hj'
          rwa [List.getElem_append_left hj] at this
    · rw [if_neg k2] at h2
      exact .inr (.inr (.inl ⟨(Prod.mk.inj h1).2.symm, (Prod.mk.inj h2).2.symm⟩))
set_option maxHeartbeats 8000000 in
set_option maxRecDepth 100000 in
theorem ProgParts_walk (C : Array Value) (L : List FnD) (Cf : Array Value) (f : FnD) (W : World) (hp : ProgR W C.toList L) (hf : FnR W Cf.toList f) :
    Calls Try.prog 5 #[.agg C, .agg Cf] W fun e w' => e = .returned (.bool true) ∧ Bel W w' := by
  obtain ⟨A, c, hC, hsl⟩ := hp
  obtain rfl : C = #[.slice A L.length c] := by cases C; simpa using hC
  obtain ⟨B, cf, hCf, hsf, hwf⟩ := hf
  obtain rfl : Cf = #[.int .i64 f.args, .slice B f.code.length cf] := by cases Cf; simpa using hCf
  clear hC hCf
  obtain ⟨fa, code⟩ := f
  simp only at hsf hwf ⊢
  have HFA := Lib.hid hwf
  obtain ⟨n, hn0⟩ : ∃ n, L.length = n := ⟨_, rfl⟩
  have hn := Lib.hid hn0
  obtain ⟨nf, hnf0⟩ : ∃ n, code.length = n := ⟨_, rfl⟩
  have hnf := Lib.hid hnf0
  rw [hn0, hnf0]
  have HBa := Lib.hid (((Bel.refl W).alloc (.cells #[.slice A n c] 24)).alloc (.cells #[.int .i64 fa, .slice B nf cf] 38))
  have HS := Lib.hid (hsl.mono FnR.mono HBa.out)
  have HF := Lib.hid (hsf.mono InstR.mono HBa.out)
  have K0 := Lib.hid ((Blk.new W 24 #[.slice A n c]).alloc (.cells #[.int .i64 fa, .slice B nf cf] 38))
  have K1 : Hid (Blk ((W.alloc (.cells #[.slice A n c] 24)).alloc (.cells #[.int .i64 fa, .slice B nf cf] 38)) (W.heap.size + 1) 38 #[.int .i64 fa, .slice B nf cf]) := Lib.hid (by
    have := Blk.new (W.alloc (.cells #[.slice A n c] 24)) 38 #[.int .i64 fa, .slice B nf cf]
    simpa using this)
  obtain ⟨fv, hfv⟩ : ∃ fv, Hid (fewB L = fv) := ⟨_, Lib.hid rfl⟩
  clear hsl hn0 hsf hnf0 hwf
  go_enter Try.func5, Try.ntmps5
  go_wp2_with fail
  generalize (W.alloc (.cells #[.slice A n c] 24)).alloc (.cells #[.int .i64 fa, .slice B nf cf] 38) = W1 at *
  generalize W.heap.size = g at *
  refine (awake_any _).mono ?_
  rintro e w1 ⟨rfl, hb⟩
  have HB := Lib.hid hb
  clear hb
  have q1 := (K0.out.bel HB.out).cell 0 rfl
  go_wp2_with fail
  refine (refFew_any A c n L fv _ (HS.out.mono FnR.mono HB.out) hn hfv).mono ?_
  rintro e w2 ⟨rfl, hb⟩
  have HB := Lib.hid (HB.out.trans hb)
  clear hb q1
  cases fv
  · go_wp2_with fail
    go_ret
    exact ⟨rfl, HBa.out.trans HB.out⟩
  have q2 := (K0.out.bel HB.out).cell 0 rfl
  have f20 := (K1.out.bel HB.out).cell 0 rfl
  have f21 := (K1.out.bel HB.out).cell 1 rfl
  by_cases h8 : (80 : Int) < nf
  · go_wp2_with fail
    go_ret
    exact ⟨rfl, HBa.out.trans HB.out⟩
  go_wp2_with fail
  clear h8
  have HFEW := Lib.hid (few_facts hfv.out)
  have hn12 : n ≤ 12 := by rw [← hn.out]; exact HFEW.out.1
  refine (own_any A c n L _ (HS.out.mono FnR.mono HB.out) hn (by omega) (Lib.hid (fun f hf => Nat.le_trans (HFEW.out.2 f hf) (by decide)))).mono ?_
  rintro e w3 ⟨zs, v, rfl, hzs, ho⟩
  have HZS := Lib.hid hzs
  obtain ⟨zn, hzn0⟩ : ∃ zn, zs.length = zn := ⟨_, rfl⟩
  have hzn : zn = n := by rw [← hzn0, ← hn.out, ← hzs, List.length_map]
  have HZN : Hid (zs.length = n) := Lib.hid (by rw [hzn0, hzn])
  have HO := Lib.hid ho
  have how := ho.own
  rw [HZN.out] at how
  obtain ⟨A3, c3, rfl⟩ := own_slice how
  clear hzs ho hzn0 hzn q2 f20 f21 how
  have hbq := (Bel.refl w3).alloc (.cells #[.slice A3 n c3] 24)
  have HB3 := Lib.hid (HB.out.trans (HO.out.bel.trans hbq))
  have HOq := Lib.hid (HO.out.mono hbq)
  have KQ := Lib.hid (Blk.new w3 24 #[.slice A3 n c3])
  have hwq : w2.heap.size ≤ w3.heap.size := HO.out.bel.size
  have f20 := (K1.out.bel HB3.out).cell 0 (v := .int .i64 fa) rfl
  have f21 := (K1.out.bel HB3.out).cell 1 (v := .slice B nf cf) rfl
  have q3 := KQ.out.cell 0 (v := .slice A3 n c3) rfl
  clear hbq HO
  have hbX := (Bel.refl (w3.alloc (.cells #[.slice A3 n c3] 24))).alloc (.cells #[.int .i64 fa, .slice B nf cf] 38)
  have HX := Lib.hid (HOq.out.mono hbX)
  have KX := Lib.hid (KQ.out.bel hbX)
  have HOWX : Hid (((w3.alloc (.cells #[.slice A3 n c3] 24)).alloc (.cells #[.int .i64 fa, .slice B nf cf] 38)).ownsRow w2.heap.size 38 2 (.slice A3 n c3) n (zs.flatMap fnc)) := Lib.hid (by
    have := HX.out.own
    rwa [HZN.out] at this)
  have HNEW := Lib.hid (cells_new (w3.alloc (.cells #[.slice A3 n c3] 24)) #[.int .i64 fa, .slice B nf cf] 38)
  rw [World.size_alloc] at HNEW
  have HSZ := Lib.hid HX.out.bel.size
  have HWL : Hid (∀ f ∈ zs.map Prod.fst, FnWf f) := Lib.hid (by rw [HZS.out]; exact sl_wf HS.out)
  clear hbX HOq KQ
  go_wp2_with (show wpList _ _ _ ({ dst := _, op := .call { callee := .builtin .append, args := _, argTypes := _ }, type := _, pos := _, after := _, guard := none } :: _) _ _; refine at_append w2.heap.size 38 (.agg #[.int .i64 0, .slice none 0 0]) 2 32 Try.underlying22 info_fn rfl (by decide) (.slice A3 n c3) n (zs.flatMap fnc) (by rfl) HOWX.out ⟨w3.heap.size + 1, 0, none⟩ 1 1 [.int .i64 fa, .slice B nf cf] (by rfl) rfl HNEW.out (fn_one fa B nf cf) (by simp only [maxLen]; omega) (by omega) HSZ.out w2 (Nat.le_refl _) HX.out.bel rfl ?_; intro v' w5 o1 g1 b1 at1; have hqY := blk_grown KX.out HOWX.out (by decide) g1; have y0 := hqY.cell 0 (v := .slice A3 n c3) rfl; have y1 := hqY.frozen 0; obtain ⟨g5, c5, rfl⟩ := own_form o1; have PUSH := Lib.hid (OwnR.push (f := ⟨fa, code⟩) (n := n + 1) HX.out KX.out hwq HWL.out (HF.out.mono InstR.mono HB.out) HFA.out (by show w5.ownsRow _ _ 2 _ _ (zs.flatMap fnc ++ [.int .i64 fa, .slice B code.length cf]); rw [hnf.out]; exact o1) (by rw [HZN.out]) g1); have q5 := (K0.out.bel (HB.out.trans PUSH.out.2.1)).cell 0 (v := .slice A n c) rfl; have q6 := PUSH.out.2.2.cell 0 rfl; clear hqY o1 g1 b1 at1)
  obtain ⟨⟨A', c', he, hs5⟩, hb5, hk5⟩ := PUSH.out
  simp only [Value.slice.injEq, true_and] at he
  obtain ⟨rfl, rfl⟩ := he
  rw [HZS.out] at hs5
  have S5 := Lib.hid hs5
  have HB5 := Lib.hid (HB.out.trans hb5)
  have K5 := Lib.hid hk5
  clear PUSH hs5 hb5 hk5 y0 y1 q5 q6 f20 f21 q3 HX KX HOWX HNEW HSZ HWL HB3 hwq
  generalize w5.setCell ⟨w3.heap.size, 0, none⟩ (.slice (some ⟨g5, 0, none⟩) (n + 1) c5) = W5 at *
  generalize w3.heap.size = q at *
  obtain ⟨bs, e0, hput⟩ : ∃ bs e0, Hid (putP L = (bs, e0)) := ⟨_, _, Lib.hid rfl⟩
  obtain ⟨m, hm⟩ : ∃ m, Hid (bs.length = m) := ⟨_, Lib.hid rfl⟩
  obtain ⟨cs, g0, hput2⟩ : ∃ cs g0, Hid (putP (L ++ [⟨fa, code⟩]) = (cs, g0)) := ⟨_, _, Lib.hid rfl⟩
  obtain ⟨m2, hm2⟩ : ∃ m2, Hid (cs.length = m2) := ⟨_, Lib.hid rfl⟩
  have hn2 : Hid ((L ++ [(⟨fa, code⟩ : FnD)]).length = n + 1) := Lib.hid (by rw [List.length_append, hn.out]; rfl)
  refine (progPut_any A c n L _ bs m e0 (HS.out.mono FnR.mono HB5.out) hn hput hm).mono ?_
  rintro e w6 ⟨A6, c6, rfl, s6, hb⟩
  have HB6 := Lib.hid (HB5.out.trans hb)
  have T6 := Lib.hid s6
  have S6 := Lib.hid (S5.out.mono FnR.mono hb)
  have K6 := Lib.hid (K5.out.bel hb)
  have q6 := K6.out.cell 0 (v := .slice (some ⟨g5, 0, none⟩) (n + 1) c5) rfl
  clear hb s6 S5 K5
  go_wp2_with fail
  refine (progPut_any _ c5 (n + 1) (L ++ [⟨fa, code⟩]) _ cs m2 g0 S6.out hn2 hput2 hm2).mono ?_
  rintro e W7 ⟨A7, c7, rfl, s7, hb⟩
  have HB7 := Lib.hid (HB6.out.trans hb)
  have T6 := Lib.hid (T6.out.mono (IntR.mono _) hb)
  have T7 := Lib.hid s7
  have S7 := Lib.hid (S6.out.mono FnR.mono hb)
  have K7 := Lib.hid (K6.out.bel hb)
  have p7 := (K0.out.bel HB7.out).cell 0 (v := .slice A n c) rfl
  clear hb s7 S6 K6 q6 HB6 HB5
  have hcase := parts_case hput.out hput2.out
  rcases hcase with ⟨rfl, rfl, hm1, hm3⟩ | ⟨rfl, rfl⟩ | ⟨rfl, rfl⟩ | ⟨rfl, rfl, h0⟩
  case inr.inl =>
    go_wp2_with fail
    go_ret
    exact ⟨by first | rfl | simp, HBa.out.trans HB7.out⟩
  case inr.inr.inl =>
    go_wp2_with fail
    all_goals
      go_ret
      exact ⟨by first | rfl | simp, HBa.out.trans HB7.out⟩
  case inr.inr.inr =>
    obtain rfl : n = 0 := by rw [← hn.out, h0]; rfl
    clear h0
    go_wp2_with fail
    go_ret
    exact ⟨by first | rfl | simp, HBa.out.trans HB7.out⟩
  have hbs : bs = progBytes L := by
    have := hput.out
    unfold putP at this
    rw [if_pos hm1] at this
    exact (Prod.mk.inj this).1.symm
  have hcs : cs = progBytes (L ++ [⟨fa, code⟩]) := by
    have := hput2.out
    unfold putP at this
    rw [if_pos hm3] at this
    exact (Prod.mk.inj this).1.symm
  have hfacts := parts_bytes hm1 hm3
  rw [← hbs, ← hcs, hn.out, hm.out, hm2.out] at hfacts
  obtain ⟨n8, m3, mm, g2, g3, hdr⟩ := hfacts
  have HDR := Lib.hid hdr
  clear hdr hbs hcs hm1 hm3
  obtain ⟨b6, o6, rfl, hc6⟩ := T6.out.int_cell (by rw [hm.out]; omega)
  obtain ⟨b7, o7, rfl, hc7⟩ := T7.out.int_cell (by rw [hm2.out]; omega)
  have d6 := (hc6 2 (by rw [hm.out]; omega)).1
  have d7 := (hc7 2 (by rw [hm2.out]; omega)).1
  rw [g2] at d6
  rw [g3] at d7
  clear hc6 hc7 g2 g3
  have hmc6 : m ≤ c6 := by rw [← hm.out]; exact T6.out.le
  have hmc7 : m2 ≤ c7 := by rw [← hm2.out]; exact T7.out.le
  have hb6 : c6 ≤ 9223372036854775807 := by have := T6.out.big; simp only [maxLen] at this; omega
  have hb7 : c7 ≤ 9223372036854775807 := by have := T7.out.big; simp only [maxLen] at this; omega
  have SA : Hid (Sl (IntR .u8) 1 W7 (some ⟨b6, o6 + 3, none⟩) (c6 - 3) (bs.drop 3)) := Lib.hid (T6.out.dropR 3 (by rw [hm.out]; omega))
  have SB : Hid (Sl (IntR .u8) 1 W7 (some ⟨b7, o7 + 3, none⟩) (c7 - 3) (bs.drop 3)) := Lib.hid (by
    have h := (T7.out.takeR m).dropR 3 (by rw [List.length_take, hm2.out]; omega)
    rwa [HDR.out] at h)
  have HDL : Hid ((bs.drop 3).length = m - 3) := Lib.hid (by rw [List.length_drop, hm.out])
  have P0 : ∀ w', Bel W7 w' → w'.cell? ⟨g, 0, none⟩ = some (.slice A n c) := fun w' h => h.cell p7
  have P1 : ∀ w', Bel W7 w' → w'.cell? ⟨q, 0, none⟩ = some (.slice (some ⟨g5, 0, none⟩) (n + 1) c5) := fun w' h => h.cell (K7.out.cell 0 rfl)
  have P2 : ∀ w', Bel W7 w' → w'.cell? ⟨b6, o6 + 2, none⟩ = some (.int .u8 n) := fun w' h => h.cell d6
  have P3 : ∀ w', Bel W7 w' → w'.cell? ⟨b7, o7 + 2, none⟩ = some (.int .u8 ((n : Int) + 1)) := fun w' h => h.cell d7
  have e1 : IntKind.i64.wrap (n : Int) = n := wrap_i64 (by omega) (by omega)
  have e2 : IntKind.i64.wrap ((n : Int) + 1) = (n : Int) + 1 := wrap_i64 (by omega) (by omega)
  have t1 : (n : Int) + 1 ≤ 8 := by omega
  have t2 : (m : Int) < m2 := by omega
  have t3 : ¬ (m : Int) < 3 := by omega
  have t4 : (3 : Int) ≤ m := by omega
  have t5 : (m : Int) ≤ c6 := by omega
  have t6 : (m : Int) ≤ c7 := by omega
  have t7 : ¬ c6 = 3 := by omega
  have t8 : ¬ c7 = 3 := by omega
  have t9 : (2 : Int) < m := by omega
  have t10 : (2 : Int) < m2 := by omega
  have t11 : 2 < m := by omega
  have t12 : 2 < m2 := by omega
  have t13 : 3 ≤ m := by omega
  clear d6 d7 p7
  go_wp2_with fail
  have SD := (Bel.refl W7).drew
  refine wp_region_T (fun w' => Bel W7 w') (fun j => false) (by kernel_rfl) ?_
  refine wpAnyU_take (i := 0) (v := ?v0) rfl (by kernel_rfl) (by kernel_rfl) (by kernel_rfl) (by kernel_rfl) (fun _ _ _ h => h) ?hy0 SD ?rest0
  case hy0 => first | (refine Or.inl ⟨by rfl, ?_⟩; (intro w' hSw; go_simp) <;> with_reducible rfl) | (refine Or.inr ⟨by rfl, ?_⟩; with_reducible rfl)
  try simp only [List.getElem_toArray, List.getElem_cons_zero, List.getElem_cons_succ, Act.put, List.setIfInBounds_toArray, List.set_cons_zero, List.set_cons_succ]
  refine wpAnyU_take (i := 1) (v := ?v1) rfl (by kernel_rfl) (by kernel_rfl) (by kernel_rfl) (by kernel_rfl) (fun _ _ _ h => h) ?hy1 SD ?rest1
  case hy1 => first | (refine Or.inl ⟨by rfl, ?_⟩; (intro w' hSw; go_simp) <;> with_reducible rfl) | (refine Or.inr ⟨by rfl, ?_⟩; with_reducible rfl)
  try simp only [List.getElem_toArray, List.getElem_cons_zero, List.getElem_cons_succ, Act.put, List.setIfInBounds_toArray, List.set_cons_zero, List.set_cons_succ]
  refine wpAnyU_take (i := 2) (v := ?v2) rfl (by kernel_rfl) (by kernel_rfl) (by kernel_rfl) (by kernel_rfl) (fun _ _ _ h => h) ?hy2 SD ?rest2
  case hy2 => first | (refine Or.inl ⟨by rfl, ?_⟩; (intro w' hSw; go_simp) <;> with_reducible rfl) | (refine Or.inr ⟨by rfl, ?_⟩; with_reducible rfl)
  try simp only [List.getElem_toArray, List.getElem_cons_zero, List.getElem_cons_succ, Act.put, List.setIfInBounds_toArray, List.set_cons_zero, List.set_cons_succ]
  refine wpAnyU_take (i := 3) (v := ?v3) rfl (by kernel_rfl) (by kernel_rfl) (by kernel_rfl) (by kernel_rfl) (fun _ _ _ h => h) ?hy3 SD ?rest3
  case hy3 => first | (refine Or.inl ⟨by rfl, ?_⟩; (intro w' hSw; go_simp) <;> with_reducible rfl) | (refine Or.inr ⟨by rfl, ?_⟩; with_reducible rfl)
  try simp only [List.getElem_toArray, List.getElem_cons_zero, List.getElem_cons_succ, Act.put, List.setIfInBounds_toArray, List.set_cons_zero, List.set_cons_succ]
  refine wpAnyU_take (i := 4) (v := ?v4) rfl (by kernel_rfl) (by kernel_rfl) (by kernel_rfl) (by kernel_rfl) (fun _ _ _ h => h) ?hy4 SD ?rest4
  case hy4 => first | (refine Or.inl ⟨by rfl, ?_⟩; (intro w' hSw; go_simp) <;> with_reducible rfl) | (refine Or.inr ⟨by rfl, ?_⟩; with_reducible rfl)
  try simp only [List.getElem_toArray, List.getElem_cons_zero, List.getElem_cons_succ, Act.put, List.setIfInBounds_toArray, List.set_cons_zero, List.set_cons_succ]
  refine wpAnyU_take (i := 5) (v := ?v5) rfl (by kernel_rfl) (by kernel_rfl) (by kernel_rfl) (by kernel_rfl) (fun _ _ _ h => h) ?hy5 SD ?rest5
  case hy5 => first | (refine Or.inl ⟨by rfl, ?_⟩; (intro w' hSw; go_simp) <;> with_reducible rfl) | (refine Or.inr ⟨by rfl, ?_⟩; with_reducible rfl)
  try simp only [List.getElem_toArray, List.getElem_cons_zero, List.getElem_cons_succ, Act.put, List.setIfInBounds_toArray, List.set_cons_zero, List.set_cons_succ]
  refine wpAnyU_take (i := 6) (v := ?v6) rfl (by kernel_rfl) (by kernel_rfl) (by kernel_rfl) (by kernel_rfl) (fun _ _ _ h => h) ?hy6 SD ?rest6
  case hy6 => first | (refine Or.inl ⟨by rfl, ?_⟩; (intro w' hSw; go_simp) <;> with_reducible rfl) | (refine Or.inr ⟨by rfl, ?_⟩; with_reducible rfl)
  try simp only [List.getElem_toArray, List.getElem_cons_zero, List.getElem_cons_succ, Act.put, List.setIfInBounds_toArray, List.set_cons_zero, List.set_cons_succ]
  refine wpAnyU_take (i := 7) (v := ?v7) rfl (by kernel_rfl) (by kernel_rfl) (by kernel_rfl) (by kernel_rfl) (fun _ _ _ h => h) ?hy7 SD ?rest7
  case hy7 => first | (refine Or.inl ⟨by rfl, ?_⟩; (intro w' hSw; go_simp) <;> with_reducible rfl) | (refine Or.inr ⟨by rfl, ?_⟩; with_reducible rfl)
  try simp only [List.getElem_toArray, List.getElem_cons_zero, List.getElem_cons_succ, Act.put, List.setIfInBounds_toArray, List.set_cons_zero, List.set_cons_succ]
  refine wpAnyU_take (i := 8) (v := ?v8) rfl (by kernel_rfl) (by kernel_rfl) (by kernel_rfl) (by kernel_rfl) (fun _ _ _ h => h) ?hy8 SD ?rest8
  case hy8 => first | (refine Or.inl ⟨by rfl, ?_⟩; (intro w' hSw; go_simp) <;> with_reducible rfl) | (refine Or.inr ⟨by rfl, ?_⟩; with_reducible rfl)
  try simp only [List.getElem_toArray, List.getElem_cons_zero, List.getElem_cons_succ, Act.put, List.setIfInBounds_toArray, List.set_cons_zero, List.set_cons_succ]
  refine wpAnyU_take (i := 9) (v := ?v9) rfl (by kernel_rfl) (by kernel_rfl) (by kernel_rfl) (by kernel_rfl) (fun _ _ _ h => h) ?hy9 SD ?rest9
  case hy9 => first | (refine Or.inl ⟨by rfl, ?_⟩; (intro w' hSw; go_simp) <;> with_reducible rfl) | (refine Or.inr ⟨by rfl, ?_⟩; with_reducible rfl)
  try simp only [List.getElem_toArray, List.getElem_cons_zero, List.getElem_cons_succ, Act.put, List.setIfInBounds_toArray, List.set_cons_zero, List.set_cons_succ]
  refine wpAnyU_take (i := 10) (v := ?v10) rfl (by kernel_rfl) (by kernel_rfl) (by kernel_rfl) (by kernel_rfl) (fun _ _ _ h => h) ?hy10 SD ?rest10
  case hy10 => first | (refine Or.inl ⟨by rfl, ?_⟩; (intro w' hSw; go_simp) <;> with_reducible rfl) | (refine Or.inr ⟨by rfl, ?_⟩; with_reducible rfl)
  try simp only [List.getElem_toArray, List.getElem_cons_zero, List.getElem_cons_succ, Act.put, List.setIfInBounds_toArray, List.set_cons_zero, List.set_cons_succ]
  refine wpAnyU_take (i := 11) (v := ?v11) rfl (by kernel_rfl) (by kernel_rfl) (by kernel_rfl) (by kernel_rfl) (fun _ _ _ h => h) ?hy11 SD ?rest11
  case hy11 => first | (refine Or.inl ⟨by rfl, ?_⟩; (intro w' hSw; go_simp) <;> with_reducible rfl) | (refine Or.inr ⟨by rfl, ?_⟩; with_reducible rfl)
  try simp only [List.getElem_toArray, List.getElem_cons_zero, List.getElem_cons_succ, Act.put, List.setIfInBounds_toArray, List.set_cons_zero, List.set_cons_succ]
  refine wpAnyU_take (i := 12) (v := ?v12) rfl (by kernel_rfl) (by kernel_rfl) (by kernel_rfl) (by kernel_rfl) (fun _ _ _ h => h) ?hy12 SD ?rest12
  case hy12 => first | (refine Or.inl ⟨by rfl, ?_⟩; (intro w' hSw; go_simp) <;> with_reducible rfl) | (refine Or.inr ⟨by rfl, ?_⟩; with_reducible rfl)
  try simp only [List.getElem_toArray, List.getElem_cons_zero, List.getElem_cons_succ, Act.put, List.setIfInBounds_toArray, List.set_cons_zero, List.set_cons_succ]
  refine wpAnyU_take (i := 13) (v := ?v13) rfl (by kernel_rfl) (by kernel_rfl) (by kernel_rfl) (by kernel_rfl) (fun _ _ _ h => h) ?hy13 SD ?rest13
  case hy13 => first | (refine Or.inl ⟨by rfl, ?_⟩; (intro w' hSw; go_simp) <;> with_reducible rfl) | (refine Or.inr ⟨by rfl, ?_⟩; with_reducible rfl)
  try simp only [List.getElem_toArray, List.getElem_cons_zero, List.getElem_cons_succ, Act.put, List.setIfInBounds_toArray, List.set_cons_zero, List.set_cons_succ]
  refine wpAnyU_take (i := 14) (v := ?v14) rfl (by kernel_rfl) (by kernel_rfl) (by kernel_rfl) (by kernel_rfl) (fun _ _ _ h => h) ?hy14 SD ?rest14
  case hy14 => first | (refine Or.inl ⟨by rfl, ?_⟩; (intro w' hSw; go_simp) <;> with_reducible rfl) | (refine Or.inr ⟨by rfl, ?_⟩; with_reducible rfl)
  try simp only [List.getElem_toArray, List.getElem_cons_zero, List.getElem_cons_succ, Act.put, List.setIfInBounds_toArray, List.set_cons_zero, List.set_cons_succ]
  refine wpAnyU_take (i := 15) (v := ?v15) rfl (by kernel_rfl) (by kernel_rfl) (by kernel_rfl) (by kernel_rfl) (fun _ _ _ h => h) ?hy15 SD ?rest15
  case hy15 => first | (refine Or.inl ⟨by rfl, ?_⟩; (intro w' hSw; go_simp) <;> with_reducible rfl) | (refine Or.inr ⟨by rfl, ?_⟩; with_reducible rfl)
  try simp only [List.getElem_toArray, List.getElem_cons_zero, List.getElem_cons_succ, Act.put, List.setIfInBounds_toArray, List.set_cons_zero, List.set_cons_succ]
  refine wpAnyU_take (i := 16) (v := ?v16) rfl (by kernel_rfl) (by kernel_rfl) (by kernel_rfl) (by kernel_rfl) (fun _ _ _ h => h) ?hy16 SD ?rest16
  case hy16 => first | (refine Or.inl ⟨by rfl, ?_⟩; (intro w' hSw; go_simp) <;> with_reducible rfl) | (refine Or.inr ⟨by rfl, ?_⟩; with_reducible rfl)
  try simp only [List.getElem_toArray, List.getElem_cons_zero, List.getElem_cons_succ, Act.put, List.setIfInBounds_toArray, List.set_cons_zero, List.set_cons_succ]
  refine wpAnyU_take (i := 17) (v := ?v17) rfl (by kernel_rfl) (by kernel_rfl) (by kernel_rfl) (by kernel_rfl) (fun _ _ _ h => h) ?hy17 SD ?rest17
  case hy17 => first | (refine Or.inl ⟨by rfl, ?_⟩; (intro w' hSw; go_simp) <;> with_reducible rfl) | (refine Or.inr ⟨by rfl, ?_⟩; with_reducible rfl)
  try simp only [List.getElem_toArray, List.getElem_cons_zero, List.getElem_cons_succ, Act.put, List.setIfInBounds_toArray, List.set_cons_zero, List.set_cons_succ]
  refine wpAnyU_take (i := 18) (v := ?v18) rfl (by kernel_rfl) (by kernel_rfl) (by kernel_rfl) (by kernel_rfl) (fun _ _ _ h => h) ?hy18 SD ?rest18
  case hy18 => first | (refine Or.inl ⟨by rfl, ?_⟩; (intro w' hSw; go_simp) <;> with_reducible rfl) | (refine Or.inr ⟨by rfl, ?_⟩; with_reducible rfl)
  try simp only [List.getElem_toArray, List.getElem_cons_zero, List.getElem_cons_succ, Act.put, List.setIfInBounds_toArray, List.set_cons_zero, List.set_cons_succ]
  refine wpAnyU_take (i := 19) (v := ?v19) rfl (by kernel_rfl) (by kernel_rfl) (by kernel_rfl) (by kernel_rfl) (fun _ _ _ h => h) ?hy19 SD ?rest19
  case hy19 => first | (refine Or.inl ⟨by rfl, ?_⟩; (intro w' hSw; go_simp) <;> with_reducible rfl) | (refine Or.inr ⟨by rfl, ?_⟩; with_reducible rfl)
  try simp only [List.getElem_toArray, List.getElem_cons_zero, List.getElem_cons_succ, Act.put, List.setIfInBounds_toArray, List.set_cons_zero, List.set_cons_succ]
  refine wpAnyU_take (i := 20) (v := ?v20) rfl (by kernel_rfl) (by kernel_rfl) (by kernel_rfl) (by kernel_rfl) (fun _ _ _ h => h) ?hy20 SD ?rest20
  case hy20 => first | (refine Or.inl ⟨by rfl, ?_⟩; (intro w' hSw; go_simp) <;> with_reducible rfl) | (refine Or.inr ⟨by rfl, ?_⟩; with_reducible rfl)
  try simp only [List.getElem_toArray, List.getElem_cons_zero, List.getElem_cons_succ, Act.put, List.setIfInBounds_toArray, List.set_cons_zero, List.set_cons_succ]
  refine wpAnyU_take (i := 21) (v := ?v21) rfl (by kernel_rfl) (by kernel_rfl) (by kernel_rfl) (by kernel_rfl) (fun _ _ _ h => h) ?hy21 SD ?rest21
  case hy21 => first | (refine Or.inl ⟨by rfl, ?_⟩; (intro w' hSw; go_simp) <;> with_reducible rfl) | (refine Or.inr ⟨by rfl, ?_⟩; with_reducible rfl)
  try simp only [List.getElem_toArray, List.getElem_cons_zero, List.getElem_cons_succ, Act.put, List.setIfInBounds_toArray, List.set_cons_zero, List.set_cons_succ]
  refine wpAnyU_take (i := 22) (v := ?v22) rfl (by kernel_rfl) (by kernel_rfl) (by kernel_rfl) (by kernel_rfl) (fun _ _ _ h => h) ?hy22 SD ?rest22
  case hy22 => first | (refine Or.inl ⟨by rfl, ?_⟩; (intro w' hSw; go_simp) <;> with_reducible rfl) | (refine Or.inr ⟨by rfl, ?_⟩; with_reducible rfl)
  try simp only [List.getElem_toArray, List.getElem_cons_zero, List.getElem_cons_succ, Act.put, List.setIfInBounds_toArray, List.set_cons_zero, List.set_cons_succ]
  refine wpAnyU_take (i := 23) (v := ?v23) rfl (by kernel_rfl) (by kernel_rfl) (by kernel_rfl) (by kernel_rfl) (fun _ _ _ h => h) ?hy23 SD ?rest23
  case hy23 => first | (refine Or.inl ⟨by rfl, ?_⟩; (intro w' hSw; go_simp) <;> with_reducible rfl) | (refine Or.inr ⟨by rfl, ?_⟩; with_reducible rfl)
  try simp only [List.getElem_toArray, List.getElem_cons_zero, List.getElem_cons_succ, Act.put, List.setIfInBounds_toArray, List.set_cons_zero, List.set_cons_succ]
  refine wpAnyU_take (i := 24) (v := ?v24) rfl (by kernel_rfl) (by kernel_rfl) (by kernel_rfl) (by kernel_rfl) (fun _ _ _ h => h) ?hy24 SD ?rest24
  case hy24 => first | (refine Or.inl ⟨by rfl, ?_⟩; (intro w' hSw; go_simp) <;> with_reducible rfl) | (refine Or.inr ⟨by rfl, ?_⟩; with_reducible rfl)
  try simp only [List.getElem_toArray, List.getElem_cons_zero, List.getElem_cons_succ, Act.put, List.setIfInBounds_toArray, List.set_cons_zero, List.set_cons_succ]
  refine wpAnyU_take (i := 25) (v := ?v25) rfl (by kernel_rfl) (by kernel_rfl) (by kernel_rfl) (by kernel_rfl) (fun _ _ _ h => h) ?hy25 SD ?rest25
  case hy25 => first | (refine Or.inl ⟨by rfl, ?_⟩; (intro w' hSw; go_simp) <;> with_reducible rfl) | (refine Or.inr ⟨by rfl, ?_⟩; with_reducible rfl)
  try simp only [List.getElem_toArray, List.getElem_cons_zero, List.getElem_cons_succ, Act.put, List.setIfInBounds_toArray, List.set_cons_zero, List.set_cons_succ]
  refine wpAnyU_take (i := 26) (v := ?v26) rfl (by kernel_rfl) (by kernel_rfl) (by kernel_rfl) (by kernel_rfl) (fun _ _ _ h => h) ?hy26 SD ?rest26
  case hy26 => first | (refine Or.inl ⟨by rfl, ?_⟩; (intro w' hSw; go_simp) <;> with_reducible rfl) | (refine Or.inr ⟨by rfl, ?_⟩; with_reducible rfl)
  try simp only [List.getElem_toArray, List.getElem_cons_zero, List.getElem_cons_succ, Act.put, List.setIfInBounds_toArray, List.set_cons_zero, List.set_cons_succ]
  refine wpAnyU_take (i := 27) (v := ?v27) rfl (by kernel_rfl) (by kernel_rfl) (by kernel_rfl) (by kernel_rfl) (fun _ _ _ h => h) ?hy27 SD ?rest27
  case hy27 => first | (refine Or.inl ⟨by rfl, ?_⟩; (intro w' hSw; go_simp) <;> with_reducible rfl) | (refine Or.inr ⟨by rfl, ?_⟩; with_reducible rfl)
  try simp only [List.getElem_toArray, List.getElem_cons_zero, List.getElem_cons_succ, Act.put, List.setIfInBounds_toArray, List.set_cons_zero, List.set_cons_succ]
  refine wpAnyU_take (i := 28) (v := ?v28) rfl (by kernel_rfl) (by kernel_rfl) (by kernel_rfl) (by kernel_rfl) (fun _ _ _ h => h) ?hy28 SD ?rest28
  case hy28 => first | (refine Or.inl ⟨by rfl, ?_⟩; (intro w' hSw; go_simp) <;> with_reducible rfl) | (refine Or.inr ⟨by rfl, ?_⟩; with_reducible rfl)
  try simp only [List.getElem_toArray, List.getElem_cons_zero, List.getElem_cons_succ, Act.put, List.setIfInBounds_toArray, List.set_cons_zero, List.set_cons_succ]
  refine wpAnyU_take (i := 29) (v := ?v29) rfl (by kernel_rfl) (by kernel_rfl) (by kernel_rfl) (by kernel_rfl) (fun _ _ _ h => h) ?hy29 SD ?rest29
  case hy29 => first | (refine Or.inl ⟨by rfl, ?_⟩; (intro w' hSw; go_simp) <;> with_reducible rfl) | (refine Or.inr ⟨by rfl, ?_⟩; with_reducible rfl)
  try simp only [List.getElem_toArray, List.getElem_cons_zero, List.getElem_cons_succ, Act.put, List.setIfInBounds_toArray, List.set_cons_zero, List.set_cons_succ]
  refine wpAnyT_one (i := 30) (by kernel_rfl) rfl (fun K hK => ?_)
  go_simp
  go_at_call 14
  refine (bytes_at (some ⟨b6, o6 + 3, none⟩) (some ⟨b7, o7 + 3, none⟩) (m - 3) (m - 3) (c6 - 3) (c7 - 3) (bs.drop 3) (bs.drop 3) _ (SA.out.mono (IntR.mono _) SD) (SB.out.mono (IntR.mono _) SD) HDL HDL true (Lib.hid (by simp))).mono ?_
  rintro en w8 ⟨rfl, hb8⟩
  have S8 : Bel W7 w8 := SD.trans hb8
  dsimp only
  refine hK.out _ _ (fun _ => S8) ?_
  clear hK K
  try simp only [List.getElem_toArray, List.getElem_cons_zero, List.getElem_cons_succ, Act.put, List.setIfInBounds_toArray, List.set_cons_zero, List.set_cons_succ]
  refine wpAnyU_take (i := 31) (v := ?v31) rfl (by kernel_rfl) (by kernel_rfl) (by kernel_rfl) (by kernel_rfl) (fun _ _ _ h => h) ?hy31 S8 ?rest31
  case hy31 => first | (refine Or.inl ⟨by rfl, ?_⟩; (intro w' hSw; go_simp) <;> with_reducible rfl) | (refine Or.inr ⟨by rfl, ?_⟩; with_reducible rfl)
  try simp only [List.getElem_toArray, List.getElem_cons_zero, List.getElem_cons_succ, Act.put, List.setIfInBounds_toArray, List.set_cons_zero, List.set_cons_succ]
  refine wpAnyU_take (i := 32) (v := ?v32) rfl (by kernel_rfl) (by kernel_rfl) (by kernel_rfl) (by kernel_rfl) (fun _ _ _ h => h) ?hy32 S8 ?rest32
  case hy32 => first | (refine Or.inl ⟨by rfl, ?_⟩; (intro w' hSw; go_simp) <;> with_reducible rfl) | (refine Or.inr ⟨by rfl, ?_⟩; with_reducible rfl)
  try simp only [List.getElem_toArray, List.getElem_cons_zero, List.getElem_cons_succ, Act.put, List.setIfInBounds_toArray, List.set_cons_zero, List.set_cons_succ]
  refine wpAnyU_take (i := 33) (v := ?v33) rfl (by kernel_rfl) (by kernel_rfl) (by kernel_rfl) (by kernel_rfl) (fun _ _ _ h => h) ?hy33 S8 ?rest33
  case hy33 => first | (refine Or.inl ⟨by rfl, ?_⟩; (intro w' hSw; go_simp) <;> with_reducible rfl) | (refine Or.inr ⟨by rfl, ?_⟩; with_reducible rfl)
  try simp only [List.getElem_toArray, List.getElem_cons_zero, List.getElem_cons_succ, Act.put, List.setIfInBounds_toArray, List.set_cons_zero, List.set_cons_succ]
  refine wpAnyU_take (i := 34) (v := ?v34) rfl (by kernel_rfl) (by kernel_rfl) (by kernel_rfl) (by kernel_rfl) (fun _ _ _ h => h) ?hy34 S8 ?rest34
  case hy34 => first | (refine Or.inl ⟨by rfl, ?_⟩; (intro w' hSw; go_simp) <;> with_reducible rfl) | (refine Or.inr ⟨by rfl, ?_⟩; with_reducible rfl)
  try simp only [List.getElem_toArray, List.getElem_cons_zero, List.getElem_cons_succ, Act.put, List.setIfInBounds_toArray, List.set_cons_zero, List.set_cons_succ]
  refine wpAnyT_one (i := 35) (by kernel_rfl) rfl (fun K hK => ?_)
  go_simp
  go_at_call 16
  refine (progSame_any A (some ⟨g5, 0, none⟩) n (n + 1) c c5 L (L ++ [⟨fa, code⟩]) false _ (HS.out.mono FnR.mono (HB7.out.trans S8)) (S7.out.mono FnR.mono S8) hn hn2 (Lib.hid (by simp))).mono ?_
  rintro en w9 ⟨rfl, hb9⟩
  have S9 : Bel W7 w9 := S8.trans hb9
  dsimp only
  refine hK.out _ _ (fun _ => S9) ?_
  clear hK K
  try simp only [List.getElem_toArray, List.getElem_cons_zero, List.getElem_cons_succ, Act.put, List.setIfInBounds_toArray, List.set_cons_zero, List.set_cons_succ]
  refine wpAnyU_take (i := 36) (v := ?v36) rfl (by kernel_rfl) (by kernel_rfl) (by kernel_rfl) (by kernel_rfl) (fun _ _ _ h => h) ?hy36 S9 ?rest36
  case hy36 => first | (refine Or.inl ⟨by rfl, ?_⟩; (intro w' hSw; go_simp) <;> with_reducible rfl) | (refine Or.inr ⟨by rfl, ?_⟩; with_reducible rfl)
  try simp only [List.getElem_toArray, List.getElem_cons_zero, List.getElem_cons_succ, Act.put, List.setIfInBounds_toArray, List.set_cons_zero, List.set_cons_succ]
  refine wpAnyU_take (i := 37) (v := ?v37) rfl (by kernel_rfl) (by kernel_rfl) (by kernel_rfl) (by kernel_rfl) (fun _ _ _ h => h) ?hy37 S9 ?rest37
  case hy37 => first | (refine Or.inl ⟨by rfl, ?_⟩; (intro w' hSw; go_simp) <;> with_reducible rfl) | (refine Or.inr ⟨by rfl, ?_⟩; with_reducible rfl)
  try simp only [List.getElem_toArray, List.getElem_cons_zero, List.getElem_cons_succ, Act.put, List.setIfInBounds_toArray, List.set_cons_zero, List.set_cons_succ]
  refine wpAnyT_one (i := 38) (by kernel_rfl) rfl (fun K hK => ?_)
  go_simp
  refine hK.out _ _ (fun _ => S9) ?_
  clear hK K
  try simp only [List.getElem_toArray, List.getElem_cons_zero, List.getElem_cons_succ, Act.put, List.setIfInBounds_toArray, List.set_cons_zero, List.set_cons_succ]
  refine wpAnyT_done (by kernel_rfl) ?_ _
  refine NoPanic.normal ?_
  clear SD S8 P0 P1 P2 P3
  go_wp2
  go_ret
  exact ⟨by first | rfl | simp, HBa.out.trans (HB7.out.trans S9)⟩
end Go.Proofs.Ytcllifcafgiopaa
