/- The walk of ArenaBack. -/
import Derived.Test.YtegdnmlpoglfeaaArLaw3
set_option linter.unusedVariables false
set_option linter.unusedSimpArgs false
namespace Go.Proofs.Ytegdnmlpoglfeaa
open Go.RowKit

theorem taken_nonneg : ∀ l : List BlkD, 0 ≤ taken l
  | [] => by simp [taken]
  | b :: l => by
    have := taken_nonneg l
    rw [taken_cons]
    omega
theorem wf_i64 {x : Int} (h0 : -9223372036854775808 ≤ x) (h1 : x ≤ 9223372036854775807) : (Lit.int .i64 x).wf = true := by
  simp [Lit.wf, IntKind.min, IntKind.max, IntKind.bits, IntKind.signed]
  omega
theorem findM_range {m : MemD} {n a : Int} {b : Bool} (h : findM m n = (a, b)) : 0 ≤ a ∧ a ≤ 1024 := by
  by_cases hc : mayM m = true ∧ 1 ≤ n
  · have hok := mayM_iff.1 hc.1
    rcases findM_cases hok hc.2 with ⟨i, hi, e, h1, -⟩ | ⟨e, -⟩
    · rw [h] at e
      simp only [Prod.mk.injEq] at e
      have := (hok.prev i hi)
      have := hok.cap1
      omega
    · rw [h] at e
      simp only [Prod.mk.injEq] at e
      omega
  · unfold findM at h
    rw [if_neg hc] at h
    simp only [Prod.mk.injEq] at h
    omega
set_option maxRecDepth 100000 in
set_option maxHeartbeats 8000000 in
theorem ArenaBack_walk (C0 : Array Value) (m : MemD) (id : Int) (B : Option Addr) (c2 : Nat) (ws : List Int) (w : World) (r0 : MemR w C0.toList m) (wf1 : (Lit.int .i64 id).wf = true) (hw : Sl (IntR .u64) 1 w B c2 ws) :
    Calls Try.prog 6 #[.agg C0, .int .i64 id, .slice B ws.length c2] w fun e w' => e = .returned (.bool true) ∧ Bel w w' := by
  obtain ⟨N, hN⟩ : ∃ N, Hid (ws.length = N) := ⟨_, Lib.hid rfl⟩
  rw [hN.out]
  obtain ⟨cap, l⟩ := m
  obtain ⟨A, c, hcs, hs, hwf0⟩ := r0
  obtain rfl : C0 = #[.int .i64 cap, .slice A l.length c] := Array.toList_inj.1 hcs
  obtain ⟨nn, hn⟩ : ∃ nn, Hid (l.length = nn) := ⟨_, Lib.hid rfl⟩
  rw [hn.out]
  have bM := Blk.new w 26 #[.int .i64 cap, .slice A nn c]
  have q0 := bM.cell 0 (v := .int .i64 cap) rfl
  have q1 := bM.cell 1 (v := .slice A nn c) rfl
  have HBM := Lib.hid bM
  have HBW := Lib.hid ((Bel.refl w).alloc (.cells #[.int .i64 cap, .slice A nn c] 26))
  have HS := Lib.hid (hs.mono BlkR.mono HBW.out)
  have HW := Lib.hid (hw.mono (IntR.mono _) HBW.out)
  obtain ⟨fb, hfb⟩ : ∃ fb, Hid (fewM ⟨cap, l⟩ = fb) := ⟨_, Lib.hid rfl⟩
  clear hs bM hcs hw
  go_enter Try.func6, Try.ntmps6
  go_wp2_with fail
  refine (awake13 _).mono ?_
  rintro e w1 ⟨rfl, hb⟩
  have HBW := Lib.hid (HBW.out.trans hb)
  have q0 := hb.cell q0
  have q1 := hb.cell q1
  have HBM := Lib.hid (HBM.out.bel hb)
  have HS := Lib.hid (HS.out.mono BlkR.mono hb)
  have HW := Lib.hid (HW.out.mono (IntR.mono _) hb)
  clear hb
  obtain ⟨g, hg⟩ : ∃ g, w.heap.size = g := ⟨_, rfl⟩
  have hg0 : w.heap.size ≤ g := by omega
  rw [hg] at q0 q1 HBM ⊢
  clear hg
  go_wp2_with fail
  refine (fewM_any cap A nn c l fb _ HS.out hn hfb).mono ?_
  rintro e w2 ⟨rfl, hb⟩
  have HBW := Lib.hid (HBW.out.trans hb)
  have q0 := hb.cell q0
  have q1 := hb.cell q1
  have HBM := Lib.hid (HBM.out.bel hb)
  have HS := Lib.hid (HS.out.mono BlkR.mono hb)
  have HW := Lib.hid (HW.out.mono (IntR.mono _) hb)
  clear hb
  cases fb
  · go_wp2_with fail
    go_ret
    exact ⟨by first | rfl | simp, HBW.out⟩
  · by_cases h1 : (1100 : Int) < N
    · go_wp2_with fail
      go_ret
      exact ⟨by first | rfl | simp, HBW.out⟩
    · have h1' : ¬ (1100 : Int) < N := h1
      obtain ⟨⟨a, fb2⟩, HFD⟩ : ∃ p, Hid (findM ⟨cap, l⟩ N = p) := ⟨_, Lib.hid rfl⟩
      obtain ⟨⟨⟨cap', l'⟩, e'⟩, hput⟩ : ∃ p, Hid (putM ⟨cap, l⟩ ⟨id, a, ws⟩ = p) := ⟨_, Lib.hid rfl⟩
      obtain ⟨nl, hnl⟩ : ∃ nl, Hid (l'.length = nl) := ⟨_, Lib.hid rfl⟩
      obtain ⟨a0, a1⟩ := findM_range HFD.out
      have hwfa : Hid ((Lit.int .i64 a).wf = true) := Lib.hid (wf_i64 (by omega) (by omega))
      by_cases hgood : fb2 = true ∧ e' = 0
      · obtain ⟨rfl, rfl⟩ := hgood
        obtain ⟨i, hok, hi, hid, hl, hnew, hp1, hp2, hpe, hok'⟩ := putM_ok (m := ⟨cap, l⟩) (b := ⟨id, a, ws⟩) (by rw [hput.out])
        simp only at hi hl hnew hp1 hp2 hpe hok'
        have hput2 := hput.out
        rw [hpe] at hput2
        simp only [Prod.mk.injEq, MemD.mk.injEq, and_true] at hput2
        obtain ⟨rfl, rfl⟩ := hput2
        have HFP : Hid (∀ k, k < N → fetchM ⟨cap, ins l i ⟨id, a, ws⟩⟩ (a + (k : Int)) = (ws.getD k 0, id, true)) := Lib.hid (fun k hk => fetch_put (m := ⟨cap, l⟩) (b := ⟨id, a, ws⟩) hi hok' (by rw [hN.out]; exact hk))
        have HFM : Hid (∀ k : Nat, k < N → fetchM ⟨cap, l⟩ (a + (k : Int)) = (0, 0, false)) := Lib.hid (fun k hk => by
          refine fetch_gap hok hi ?_ ?_
          · simp only; omega
          · have := hN.out; omega)
        have HDR : Hid (dropM ⟨cap, ins l i ⟨id, a, ws⟩⟩ id = (⟨cap, l⟩, 0)) := Lib.hid (drop_put (m := ⟨cap, l⟩) (b := ⟨id, a, ws⟩) hi hnew hok')
        obtain ⟨lf, hlf⟩ : ∃ lf, leftM ⟨cap, l⟩ = lf := ⟨_, rfl⟩
        obtain ⟨lp, hlp⟩ : ∃ lp, leftM ⟨cap, ins l i ⟨id, a, ws⟩⟩ = lp := ⟨_, rfl⟩
        have hsub : IntKind.i64.wrap (lf - N) = lp := by
          have h3 := left_put (m := ⟨cap, l⟩) (b := ⟨id, a, ws⟩) hok hi hok'
          simp only at h3
          rw [hlf, hlp, hN.out] at h3
          have h4 := left_all hok
          have h5 := left_all hok'
          rw [hlf] at h4
          rw [hlp] at h5
          have h6 := taken_nonneg l
          have h7 := taken_nonneg (ins l i ⟨id, a, ws⟩)
          have h8 := taken_ins hi ⟨id, a, ws⟩
          have h9 := hok.cap1
          have h10 := hok.cap0
          have h11 : leftL (gapsL ⟨cap, l⟩) = lf := by
            unfold leftM at hlf
            rw [if_pos (mayM_iff.2 hok)] at hlf
            exact hlf
          have h12 := left_upto hok' (ins l i ⟨id, a, ws⟩).length (Nat.le_refl _)
          rw [wrap_i64]
          · exact h3.symm
          · simp only at h4 h5 h9 h10
            have := taken_le hok'
            simp only at this
            omega
          · simp only at h4 h5 h9 h10
            omega
        have HL := Lib.hid hlf
        have HLP := Lib.hid hlp
        have HMP : Hid (mayM ⟨cap, ins l i ⟨id, a, ws⟩⟩ = true) := Lib.hid (mayM_iff.2 hok')
        have hnl2 := hnl
        generalize ins l i ⟨id, a, ws⟩ = l' at *
        clear hok hi hid hl hnew hp1 hp2 hpe hok' hlf hlp hnl2
        go_wp2_with fail
        refine (Find_any cap A nn c l N a _ _ HS.out hn (by omega) HFD).mono ?_
        rintro e v10 ⟨rfl, hb⟩
        have HBW := Lib.hid (HBW.out.trans hb)
        have q0 := hb.cell q0
        have q1 := hb.cell q1
        have HBM := Lib.hid (HBM.out.bel hb)
        have HS := Lib.hid (HS.out.mono BlkR.mono hb)
        have HW := Lib.hid (HW.out.mono (IntR.mono _) hb)
        clear hb
        go_wp2_with fail
        refine (Put_any cap A nn c l id a B N c2 ws _ HS.out hn HW.out hN (Lib.hid wf1) hwfa cap l' nl 0 hput hnl).mono ?_
        rintro e v11 ⟨A3, c3, rfl, s3, hb⟩
        have HBW := Lib.hid (HBW.out.trans hb)
        have q0 := hb.cell q0
        have q1 := hb.cell q1
        have HBM := Lib.hid (HBM.out.bel hb)
        have HS := Lib.hid (HS.out.mono BlkR.mono hb)
        have HW := Lib.hid (HW.out.mono (IntR.mono _) hb)
        have HS3 := Lib.hid s3.sl
        clear s3
        clear hb
        have bp := Blk.new v11 26 #[.int .i64 cap, .slice A3 nl c3]
        have hb := (Bel.refl v11).alloc (.cells #[.int .i64 cap, .slice A3 nl c3] 26)
        have HBW := Lib.hid (HBW.out.trans hb)
        have q0 := hb.cell q0
        have q1 := hb.cell q1
        have HBM := Lib.hid (HBM.out.bel hb)
        have HS := Lib.hid (HS.out.mono BlkR.mono hb)
        have HW := Lib.hid (HW.out.mono (IntR.mono _) hb)
        have HS3 := Lib.hid (HS3.out.mono BlkR.mono hb)
        have p0 := bp.cell 0 (v := .int .i64 cap) rfl
        have p1 := bp.cell 1 (v := .slice A3 nl c3) rfl
        have Bp := Lib.hid bp
        clear hb bp
        go_wp2_with fail
        generalize v11.alloc (.cells #[.int .i64 cap, .slice A3 nl c3] 26) = V11 at *
        generalize v11.heap.size = gp at *
        go_wp2_with fail
        have HBK0 := Bel.refl V11
        go_loopw [13] (fun kv wr => ∃ k : Nat, kv = .int .i64 k ∧ k ≤ N ∧ Bel V11 wr) (fun kv _ => N - (intOf kv).toNat)
        case atStart => exact ⟨0, rfl, Nat.zero_le _, Bel.refl _⟩
        case round =>
          obtain ⟨k, rfl, hk, hb⟩ := hrel
          have HBW := Lib.hid (HBW.out.trans hb)
          have q0 := hb.cell q0
          have q1 := hb.cell q1
          have HBM := Lib.hid (HBM.out.bel hb)
          have HS := Lib.hid (HS.out.mono BlkR.mono hb)
          have HW := Lib.hid (HW.out.mono (IntR.mono _) hb)
          have HS3 := Lib.hid (HS3.out.mono BlkR.mono hb)
          have p0 := hb.cell p0
          have p1 := hb.cell p1
          have Bp := Lib.hid (Bp.out.bel hb)
          have HBK := Lib.hid hb
          clear hb
          by_cases hkn : k = N
          · subst hkn
            go_wp2_with fail
            refine (Drop_any cap A3 nl c3 l' id _ HS3.out hnl cap l nn 0 HDR hn).mono ?_
            rintro e v12 ⟨A4, c4, rfl, s4, hb⟩
            have HBW := Lib.hid (HBW.out.trans hb)
            have q0 := hb.cell q0
            have q1 := hb.cell q1
            have HBM := Lib.hid (HBM.out.bel hb)
            have HS := Lib.hid (HS.out.mono BlkR.mono hb)
            have HW := Lib.hid (HW.out.mono (IntR.mono _) hb)
            have HS3 := Lib.hid (HS3.out.mono BlkR.mono hb)
            have p0 := hb.cell p0
            have p1 := hb.cell p1
            have Bp := Lib.hid (Bp.out.bel hb)
            have HS4 := Lib.hid s4.sl
            clear s4
            clear hb
            have bd := Blk.new v12 26 #[.int .i64 cap, .slice A4 nn c4]
            have hb := (Bel.refl v12).alloc (.cells #[.int .i64 cap, .slice A4 nn c4] 26)
            have HBW := Lib.hid (HBW.out.trans hb)
            have q0 := hb.cell q0
            have q1 := hb.cell q1
            have HBM := Lib.hid (HBM.out.bel hb)
            have HS := Lib.hid (HS.out.mono BlkR.mono hb)
            have HW := Lib.hid (HW.out.mono (IntR.mono _) hb)
            have HS3 := Lib.hid (HS3.out.mono BlkR.mono hb)
            have p0 := hb.cell p0
            have p1 := hb.cell p1
            have Bp := Lib.hid (Bp.out.bel hb)
            have HS4 := Lib.hid (HS4.out.mono BlkR.mono hb)
            have d0 := bd.cell 0 (v := .int .i64 cap) rfl
            have d1 := bd.cell 1 (v := .slice A4 nn c4) rfl
            have Bd := Lib.hid bd
            clear hb bd
            go_wp2_with fail
            generalize v12.alloc (.cells #[.int .i64 cap, .slice A4 nn c4] 26) = V12 at *
            generalize v12.heap.size = gd at *
            generalize V12 = W0 at *
            have Q0 := fun (w' : World) (h : Bel W0 w') => h.cell q0
            have Q1 := fun (w' : World) (h : Bel W0 w') => h.cell q1
            have P0 := fun (w' : World) (h : Bel W0 w') => h.cell p0
            have P1 := fun (w' : World) (h : Bel W0 w') => h.cell p1
            have D0 := fun (w' : World) (h : Bel W0 w') => h.cell d0
            have D1 := fun (w' : World) (h : Bel W0 w') => h.cell d1
            have HWW := HBW.out
            have HR : Bel W0 W0.drew := (Bel.refl W0).drew
            clear q0 q1 p0 p1 d0 d1 HBM HBW Bp Bd
            refine wp_region_T (fun w' => Bel W0 w') (fun _ => false) (by kernel_rfl) ?_
            refine wpAnyU_take (i := 0) (v := ?v0) rfl (by kernel_rfl) (by kernel_rfl) (by kernel_rfl) (by kernel_rfl) (fun _ _ _ h => h) ?hy0 HR ?rest0
            case hy0 => first | (refine Or.inl ⟨by rfl, ?_⟩; (intro w' hSw; go_simp) <;> with_reducible rfl) | (refine Or.inr ⟨by rfl, ?_⟩; with_reducible rfl)
            try simp only [List.getElem_toArray, List.getElem_cons_zero, List.getElem_cons_succ, Act.put, List.setIfInBounds_toArray, List.set_cons_zero, List.set_cons_succ]
            refine wpAnyU_take (i := 1) (v := ?v1) rfl (by kernel_rfl) (by kernel_rfl) (by kernel_rfl) (by kernel_rfl) (fun _ _ _ h => h) ?hy1 HR ?rest1
            case hy1 => first | (refine Or.inl ⟨by rfl, ?_⟩; (intro w' hSw; go_simp) <;> with_reducible rfl) | (refine Or.inr ⟨by rfl, ?_⟩; with_reducible rfl)
            try simp only [List.getElem_toArray, List.getElem_cons_zero, List.getElem_cons_succ, Act.put, List.setIfInBounds_toArray, List.set_cons_zero, List.set_cons_succ]
            refine wpAnyU_take (i := 2) (v := ?v2) rfl (by kernel_rfl) (by kernel_rfl) (by kernel_rfl) (by kernel_rfl) (fun _ _ _ h => h) ?hy2 HR ?rest2
            case hy2 => first | (refine Or.inl ⟨by rfl, ?_⟩; (intro w' hSw; go_simp) <;> with_reducible rfl) | (refine Or.inr ⟨by rfl, ?_⟩; with_reducible rfl)
            try simp only [List.getElem_toArray, List.getElem_cons_zero, List.getElem_cons_succ, Act.put, List.setIfInBounds_toArray, List.set_cons_zero, List.set_cons_succ]
            refine wpAnyU_take (i := 3) (v := ?v3) rfl (by kernel_rfl) (by kernel_rfl) (by kernel_rfl) (by kernel_rfl) (fun _ _ _ h => h) ?hy3 HR ?rest3
            case hy3 => first | (refine Or.inl ⟨by rfl, ?_⟩; (intro w' hSw; go_simp) <;> with_reducible rfl) | (refine Or.inr ⟨by rfl, ?_⟩; with_reducible rfl)
            try simp only [List.getElem_toArray, List.getElem_cons_zero, List.getElem_cons_succ, Act.put, List.setIfInBounds_toArray, List.set_cons_zero, List.set_cons_succ]
            refine wpAnyU_take (i := 4) (v := ?v4) rfl (by kernel_rfl) (by kernel_rfl) (by kernel_rfl) (by kernel_rfl) (fun _ _ _ h => h) ?hy4 HR ?rest4
            case hy4 => first | (refine Or.inl ⟨by rfl, ?_⟩; (intro w' hSw; go_simp) <;> with_reducible rfl) | (refine Or.inr ⟨by rfl, ?_⟩; with_reducible rfl)
            try simp only [List.getElem_toArray, List.getElem_cons_zero, List.getElem_cons_succ, Act.put, List.setIfInBounds_toArray, List.set_cons_zero, List.set_cons_succ]
            refine wpAnyT_one (i := 5) (by kernel_rfl) rfl (fun K hK => ?_)
            go_simp
            go_at_call 18
            refine (refSame_any cap cap A4 A nn nn c4 c l l true _ (HS4.out.mono BlkR.mono HR) (HS.out.mono BlkR.mono HR) hn hn (Lib.hid (decide_eq_true rfl))).mono ?_
            rintro e w51 ⟨rfl, hb1⟩
            have HR5 : Bel W0 w51 := HR.trans hb1
            refine hK.out _ _ (fun _ => HR5) ?_
            clear hK K
            try simp only [List.getElem_toArray, List.getElem_cons_zero, List.getElem_cons_succ, Act.put, List.setIfInBounds_toArray, List.set_cons_zero, List.set_cons_succ]
            refine wpAnyU_take (i := 6) (v := ?v6) rfl (by kernel_rfl) (by kernel_rfl) (by kernel_rfl) (by kernel_rfl) (fun _ _ _ h => h) ?hy6 HR5 ?rest6
            case hy6 => first | (refine Or.inl ⟨by rfl, ?_⟩; (intro w' hSw; go_simp) <;> with_reducible rfl) | (refine Or.inr ⟨by rfl, ?_⟩; with_reducible rfl)
            try simp only [List.getElem_toArray, List.getElem_cons_zero, List.getElem_cons_succ, Act.put, List.setIfInBounds_toArray, List.set_cons_zero, List.set_cons_succ]
            refine wpAnyU_take (i := 7) (v := ?v7) rfl (by kernel_rfl) (by kernel_rfl) (by kernel_rfl) (by kernel_rfl) (fun _ _ _ h => h) ?hy7 HR5 ?rest7
            case hy7 => first | (refine Or.inl ⟨by rfl, ?_⟩; (intro w' hSw; go_simp) <;> with_reducible rfl) | (refine Or.inr ⟨by rfl, ?_⟩; with_reducible rfl)
            try simp only [List.getElem_toArray, List.getElem_cons_zero, List.getElem_cons_succ, Act.put, List.setIfInBounds_toArray, List.set_cons_zero, List.set_cons_succ]
            refine wpAnyU_take (i := 8) (v := ?v8) rfl (by kernel_rfl) (by kernel_rfl) (by kernel_rfl) (by kernel_rfl) (fun _ _ _ h => h) ?hy8 HR5 ?rest8
            case hy8 => first | (refine Or.inl ⟨by rfl, ?_⟩; (intro w' hSw; go_simp) <;> with_reducible rfl) | (refine Or.inr ⟨by rfl, ?_⟩; with_reducible rfl)
            try simp only [List.getElem_toArray, List.getElem_cons_zero, List.getElem_cons_succ, Act.put, List.setIfInBounds_toArray, List.set_cons_zero, List.set_cons_succ]
            refine wpAnyU_take (i := 10) (v := ?v10) rfl (by kernel_rfl) (by kernel_rfl) (by kernel_rfl) (by kernel_rfl) (fun _ _ _ h => h) ?hy10 HR5 ?rest10
            case hy10 => first | (refine Or.inl ⟨by rfl, ?_⟩; (intro w' hSw; go_simp) <;> with_reducible rfl) | (refine Or.inr ⟨by rfl, ?_⟩; with_reducible rfl)
            try simp only [List.getElem_toArray, List.getElem_cons_zero, List.getElem_cons_succ, Act.put, List.setIfInBounds_toArray, List.set_cons_zero, List.set_cons_succ]
            refine wpAnyU_take (i := 12) (v := ?v12) rfl (by kernel_rfl) (by kernel_rfl) (by kernel_rfl) (by kernel_rfl) (fun _ _ _ h => h) ?hy12 HR5 ?rest12
            case hy12 => first | (refine Or.inl ⟨by rfl, ?_⟩; (intro w' hSw; go_simp) <;> with_reducible rfl) | (refine Or.inr ⟨by rfl, ?_⟩; with_reducible rfl)
            try simp only [List.getElem_toArray, List.getElem_cons_zero, List.getElem_cons_succ, Act.put, List.setIfInBounds_toArray, List.set_cons_zero, List.set_cons_succ]
            refine wpAnyU_take (i := 13) (v := ?v13) rfl (by kernel_rfl) (by kernel_rfl) (by kernel_rfl) (by kernel_rfl) (fun _ _ _ h => h) ?hy13 HR5 ?rest13
            case hy13 => first | (refine Or.inl ⟨by rfl, ?_⟩; (intro w' hSw; go_simp) <;> with_reducible rfl) | (refine Or.inr ⟨by rfl, ?_⟩; with_reducible rfl)
            try simp only [List.getElem_toArray, List.getElem_cons_zero, List.getElem_cons_succ, Act.put, List.setIfInBounds_toArray, List.set_cons_zero, List.set_cons_succ]
            refine wpAnyT_one (i := 9) (by kernel_rfl) rfl (fun K hK => ?_)
            go_simp
            go_at_call 12
            refine (Left_any cap A3 nl c3 l' lp _ (HS3.out.mono BlkR.mono HR5) hnl HLP).mono ?_
            rintro e w52 ⟨rfl, hb2⟩
            have HR9 : Bel W0 w52 := HR5.trans hb2
            refine hK.out _ _ (fun _ => HR9) ?_
            clear hK K
            try simp only [List.getElem_toArray, List.getElem_cons_zero, List.getElem_cons_succ, Act.put, List.setIfInBounds_toArray, List.set_cons_zero, List.set_cons_succ]
            refine wpAnyT_one (i := 11) (by kernel_rfl) rfl (fun K hK => ?_)
            go_simp
            go_at_call 12
            refine (Left_any cap A nn c l lf _ (HS.out.mono BlkR.mono HR9) hn HL).mono ?_
            rintro e w53 ⟨rfl, hb3⟩
            have HR11 : Bel W0 w53 := HR9.trans hb3
            refine hK.out _ _ (fun _ => HR11) ?_
            clear hK K
            try simp only [List.getElem_toArray, List.getElem_cons_zero, List.getElem_cons_succ, Act.put, List.setIfInBounds_toArray, List.set_cons_zero, List.set_cons_succ]
            refine wpAnyU_take (i := 14) (v := ?v14) rfl (by kernel_rfl) (by kernel_rfl) (by kernel_rfl) (by kernel_rfl) (fun _ _ _ h => h) ?hy14 HR11 ?rest14
            case hy14 => first | (refine Or.inl ⟨by rfl, ?_⟩; (intro w' hSw; go_simp) <;> with_reducible rfl) | (refine Or.inr ⟨by rfl, ?_⟩; with_reducible rfl)
            try simp only [List.getElem_toArray, List.getElem_cons_zero, List.getElem_cons_succ, Act.put, List.setIfInBounds_toArray, List.set_cons_zero, List.set_cons_succ]
            refine wpAnyU_take (i := 15) (v := ?v15) rfl (by kernel_rfl) (by kernel_rfl) (by kernel_rfl) (by kernel_rfl) (fun _ _ _ h => h) ?hy15 HR11 ?rest15
            case hy15 => first | (refine Or.inl ⟨by rfl, ?_⟩; (intro w' hSw; go_simp) <;> with_reducible rfl) | (refine Or.inr ⟨by rfl, ?_⟩; with_reducible rfl)
            try simp only [List.getElem_toArray, List.getElem_cons_zero, List.getElem_cons_succ, Act.put, List.setIfInBounds_toArray, List.set_cons_zero, List.set_cons_succ]
            refine wpAnyU_take (i := 16) (v := ?v16) rfl (by kernel_rfl) (by kernel_rfl) (by kernel_rfl) (by kernel_rfl) (fun _ _ _ h => h) ?hy16 HR11 ?rest16
            case hy16 => first | (refine Or.inl ⟨by rfl, ?_⟩; (intro w' hSw; go_simp) <;> with_reducible rfl) | (refine Or.inr ⟨by rfl, ?_⟩; with_reducible rfl)
            try simp only [List.getElem_toArray, List.getElem_cons_zero, List.getElem_cons_succ, Act.put, List.setIfInBounds_toArray, List.set_cons_zero, List.set_cons_succ]
            refine wpAnyU_take (i := 17) (v := ?v17) rfl (by kernel_rfl) (by kernel_rfl) (by kernel_rfl) (by kernel_rfl) (fun _ _ _ h => h) ?hy17 HR11 ?rest17
            case hy17 => first | (refine Or.inl ⟨by rfl, ?_⟩; (intro w' hSw; go_simp) <;> with_reducible rfl) | (refine Or.inr ⟨by rfl, ?_⟩; with_reducible rfl)
            try simp only [List.getElem_toArray, List.getElem_cons_zero, List.getElem_cons_succ, Act.put, List.setIfInBounds_toArray, List.set_cons_zero, List.set_cons_succ]
            refine wpAnyU_take (i := 18) (v := ?v18) rfl (by kernel_rfl) (by kernel_rfl) (by kernel_rfl) (by kernel_rfl) (fun _ _ _ h => h) ?hy18 HR11 ?rest18
            case hy18 => first | (refine Or.inl ⟨by rfl, ?_⟩; (intro w' hSw; go_simp) <;> with_reducible rfl) | (refine Or.inr ⟨by rfl, ?_⟩; with_reducible rfl)
            try simp only [List.getElem_toArray, List.getElem_cons_zero, List.getElem_cons_succ, Act.put, List.setIfInBounds_toArray, List.set_cons_zero, List.set_cons_succ]
            refine wpAnyT_one (i := 19) (by kernel_rfl) rfl (fun K hK => ?_)
            go_simp
            go_at_call 14
            refine (May_any cap A3 nl c3 l' true _ (HS3.out.mono BlkR.mono HR11) hnl HMP).mono ?_
            rintro e w54 ⟨rfl, hb4⟩
            have HR19 : Bel W0 w54 := HR11.trans hb4
            refine hK.out _ _ (fun _ => HR19) ?_
            clear hK K
            try simp only [List.getElem_toArray, List.getElem_cons_zero, List.getElem_cons_succ, Act.put, List.setIfInBounds_toArray, List.set_cons_zero, List.set_cons_succ]
            refine wpAnyU_take (i := 20) (v := ?v20) rfl (by kernel_rfl) (by kernel_rfl) (by kernel_rfl) (by kernel_rfl) (fun _ _ _ h => h) ?hy20 HR19 ?rest20
            case hy20 => first | (refine Or.inl ⟨by rfl, ?_⟩; (intro w' hSw; go_simp) <;> with_reducible rfl) | (refine Or.inr ⟨by rfl, ?_⟩; with_reducible rfl)
            try simp only [List.getElem_toArray, List.getElem_cons_zero, List.getElem_cons_succ, Act.put, List.setIfInBounds_toArray, List.set_cons_zero, List.set_cons_succ]
            refine wpAnyU_take (i := 21) (v := ?v21) rfl (by kernel_rfl) (by kernel_rfl) (by kernel_rfl) (by kernel_rfl) (fun _ _ _ h => h) ?hy21 HR19 ?rest21
            case hy21 => first | (refine Or.inl ⟨by rfl, ?_⟩; (intro w' hSw; go_simp) <;> with_reducible rfl) | (refine Or.inr ⟨by rfl, ?_⟩; with_reducible rfl)
            try simp only [List.getElem_toArray, List.getElem_cons_zero, List.getElem_cons_succ, Act.put, List.setIfInBounds_toArray, List.set_cons_zero, List.set_cons_succ]
            refine wpAnyT_done (by kernel_rfl) ?_ _
            refine NoPanic.normal ?_
            go_wp2
            go_ret
            exact ⟨by first | (simp; done) | (simp; omega), HWW.trans HR19⟩
          · have hk1 : k < N := by omega
            have hk2 : (k : Int) < N := by omega
            have ek : IntKind.i64.wrap (a + (k : Int)) = a + k := wrap_i64 (by omega) (by omega)
            have ek1 : IntKind.i64.wrap ((k : Int) + 1) = (k : Int) + 1 := wrap_i64 (by omega) (by omega)
            obtain ⟨x, hx⟩ : ∃ x, Hid (ws.getD k 0 = x) := ⟨_, Lib.hid rfl⟩
            go_wp2_with fail
            refine (Fetch_any cap A3 nl c3 l' (a + k) x id true _ HS3.out hnl (Lib.hid (by rw [HFP.out k hk1, hx.out]))).mono ?_
            rintro e v12 ⟨rfl, hb⟩
            have HBW := Lib.hid (HBW.out.trans hb)
            have q0 := hb.cell q0
            have q1 := hb.cell q1
            have HBM := Lib.hid (HBM.out.bel hb)
            have HS := Lib.hid (HS.out.mono BlkR.mono hb)
            have HW := Lib.hid (HW.out.mono (IntR.mono _) hb)
            have HS3 := Lib.hid (HS3.out.mono BlkR.mono hb)
            have p0 := hb.cell p0
            have p1 := hb.cell p1
            have Bp := Lib.hid (Bp.out.bel hb)
            have HBK := Lib.hid (HBK.out.trans hb)
            clear hb
            go_wp2_with fail
            refine (Fetch_any cap A nn c l (a + k) 0 0 false _ HS.out hn (Lib.hid (HFM.out k hk1))).mono ?_
            rintro e v13 ⟨rfl, hb⟩
            have HBW := Lib.hid (HBW.out.trans hb)
            have q0 := hb.cell q0
            have q1 := hb.cell q1
            have HBM := Lib.hid (HBM.out.bel hb)
            have HS := Lib.hid (HS.out.mono BlkR.mono hb)
            have HW := Lib.hid (HW.out.mono (IntR.mono _) hb)
            have HS3 := Lib.hid (HS3.out.mono BlkR.mono hb)
            have p0 := hb.cell p0
            have p1 := hb.cell p1
            have Bp := Lib.hid (Bp.out.bel hb)
            have HBK := Lib.hid (HBK.out.trans hb)
            clear hb
            obtain ⟨bw, ow, rfl, hcw⟩ := HW.out.int_cell (by rw [hN.out]; omega)
            have d0 := (hcw k (by rw [hN.out]; exact hk1)).1
            rw [hx.out] at d0
            have s0 : (x != x) = false := by simp
            have s1 : (id != id) = false := by simp
            clear hcw hkn
            go_wp2
            go_roundw
            case rel => exact ⟨k + 1, by simp, by omega, HBK.out⟩
            case measure => simp [intOf]; omega
      · have HCASE : Hid ((fb2 = false ∨ e' ≠ 0) ∧ (mayM ⟨cap, l⟩ = false ∨ N = 0 ∨ id < 1 ∨ e' = 4)) := Lib.hid (by
          have hN1 : Hid (ws = [] ↔ N = 0) := Lib.hid (by
            rw [← hN.out]
            exact List.length_eq_zero_iff.symm)
          have hE := putM_err ⟨cap, l⟩ ⟨id, a, ws⟩
          rw [hput.out] at hE
          simp only at hE
          refine ⟨?_, ?_⟩
          · cases fb2
            · exact .inl rfl
            · exact .inr fun h => hgood ⟨rfl, h⟩
          · rcases hE with hE | hE | hE
            · obtain ⟨i, hok, hi, hid, hl, hnew, hp1, hp2, hpe, hok'⟩ := putM_ok (m := ⟨cap, l⟩) (b := ⟨id, a, ws⟩) (by rw [hput.out]; exact hE)
              obtain ⟨x, e1, e2⟩ := put_find (m := ⟨cap, l⟩) hok (b := ⟨id, a, ws⟩) (List.length_pos_iff.1 hl) (by rw [hput.out]; exact hE)
              simp only [hN.out, HFD.out, Prod.mk.injEq] at e1
              exact absurd ⟨e1.2, hE⟩ hgood
            · have := putM_one (m := ⟨cap, l⟩) (b := ⟨id, a, ws⟩) (by rw [hput.out]; exact hE)
              simp only at this
              by_cases hm : mayM ⟨cap, l⟩ = true
              · by_cases hi : 1 ≤ id
                · by_cases hw : ws = []
                  · exact .inr (.inl (hN1.out.1 hw))
                  · exact absurd ⟨hm, hi, hw⟩ this
                · exact .inr (.inr (.inl (by omega)))
              · exact .inl (by simpa using hm)
            · exact .inr (.inr (.inr hE)))
        clear hgood
        obtain ⟨mb, hmb⟩ : ∃ mb, Hid (mayM ⟨cap, l⟩ = mb) := ⟨_, Lib.hid rfl⟩
        rw [hmb.out] at HCASE
        have TAIL : Hid ((!mb || ((N : Int) == 0) || decide (id < 1) || (e' == 4)) = true) := Lib.hid (by
          rcases HCASE.out.2 with h | h | h | h <;> simp [h])
        by_cases hf2 : fb2 = false
        · subst hf2
          clear HCASE
          cases mb
          · go_wp2_with fail
            refine (Find_any cap A nn c l N a _ _ HS.out hn (by omega) HFD).mono ?_
            rintro e v10 ⟨rfl, hb⟩
            have HBW := Lib.hid (HBW.out.trans hb)
            have q0 := hb.cell q0
            have q1 := hb.cell q1
            have HBM := Lib.hid (HBM.out.bel hb)
            have HS := Lib.hid (HS.out.mono BlkR.mono hb)
            have HW := Lib.hid (HW.out.mono (IntR.mono _) hb)
            clear hb
            go_wp2_with fail
            refine (Put_any cap A nn c l id a B N c2 ws _ HS.out hn HW.out hN (Lib.hid wf1) hwfa cap' l' nl e' hput hnl).mono ?_
            rintro e v11 ⟨A3, c3, rfl, s3, hb⟩
            have HBW := Lib.hid (HBW.out.trans hb)
            have q0 := hb.cell q0
            have q1 := hb.cell q1
            have HBM := Lib.hid (HBM.out.bel hb)
            have HS := Lib.hid (HS.out.mono BlkR.mono hb)
            have HW := Lib.hid (HW.out.mono (IntR.mono _) hb)
            clear s3
            clear hb
            have bp := Blk.new v11 26 #[.int .i64 cap', .slice A3 nl c3]
            have hb := (Bel.refl v11).alloc (.cells #[.int .i64 cap', .slice A3 nl c3] 26)
            have HBW := Lib.hid (HBW.out.trans hb)
            have q0 := hb.cell q0
            have q1 := hb.cell q1
            have HBM := Lib.hid (HBM.out.bel hb)
            have HS := Lib.hid (HS.out.mono BlkR.mono hb)
            have HW := Lib.hid (HW.out.mono (IntR.mono _) hb)
            have p0 := bp.cell 0 (v := .int .i64 cap') rfl
            have p1 := bp.cell 1 (v := .slice A3 nl c3) rfl
            have Bp := Lib.hid bp
            clear hb bp
            go_wp2_with fail
            generalize v11.alloc (.cells #[.int .i64 cap', .slice A3 nl c3] 26) = V11 at *
            generalize v11.heap.size = gp at *
            go_wp2_with fail
            refine (May_any cap A nn c l _ _ HS.out hn hmb).mono ?_
            rintro e v12 ⟨rfl, hb⟩
            have HBW := Lib.hid (HBW.out.trans hb)
            have q0 := hb.cell q0
            have q1 := hb.cell q1
            have HBM := Lib.hid (HBM.out.bel hb)
            have HS := Lib.hid (HS.out.mono BlkR.mono hb)
            have HW := Lib.hid (HW.out.mono (IntR.mono _) hb)
            have p0 := hb.cell p0
            have p1 := hb.cell p1
            have Bp := Lib.hid (Bp.out.bel hb)
            clear hb
            go_wp2_with fail
            go_ret
            exact ⟨by first | rfl | simp, HBW.out⟩
          · by_cases hn0 : N = 0
            · subst hn0
              go_wp2_with fail
              refine (Find_any cap A nn c l 0 a _ _ HS.out hn (by omega) HFD).mono ?_
              rintro e v10 ⟨rfl, hb⟩
              have HBW := Lib.hid (HBW.out.trans hb)
              have q0 := hb.cell q0
              have q1 := hb.cell q1
              have HBM := Lib.hid (HBM.out.bel hb)
              have HS := Lib.hid (HS.out.mono BlkR.mono hb)
              have HW := Lib.hid (HW.out.mono (IntR.mono _) hb)
              clear hb
              go_wp2_with fail
              refine (Put_any cap A nn c l id a B 0 c2 ws _ HS.out hn HW.out hN (Lib.hid wf1) hwfa cap' l' nl e' hput hnl).mono ?_
              rintro e v11 ⟨A3, c3, rfl, s3, hb⟩
              have HBW := Lib.hid (HBW.out.trans hb)
              have q0 := hb.cell q0
              have q1 := hb.cell q1
              have HBM := Lib.hid (HBM.out.bel hb)
              have HS := Lib.hid (HS.out.mono BlkR.mono hb)
              have HW := Lib.hid (HW.out.mono (IntR.mono _) hb)
              clear s3
              clear hb
              have bp := Blk.new v11 26 #[.int .i64 cap', .slice A3 nl c3]
              have hb := (Bel.refl v11).alloc (.cells #[.int .i64 cap', .slice A3 nl c3] 26)
              have HBW := Lib.hid (HBW.out.trans hb)
              have q0 := hb.cell q0
              have q1 := hb.cell q1
              have HBM := Lib.hid (HBM.out.bel hb)
              have HS := Lib.hid (HS.out.mono BlkR.mono hb)
              have HW := Lib.hid (HW.out.mono (IntR.mono _) hb)
              have p0 := bp.cell 0 (v := .int .i64 cap') rfl
              have p1 := bp.cell 1 (v := .slice A3 nl c3) rfl
              have Bp := Lib.hid bp
              clear hb bp
              go_wp2_with fail
              generalize v11.alloc (.cells #[.int .i64 cap', .slice A3 nl c3] 26) = V11 at *
              generalize v11.heap.size = gp at *
              go_wp2_with fail
              refine (May_any cap A nn c l _ _ HS.out hn hmb).mono ?_
              rintro e v12 ⟨rfl, hb⟩
              have HBW := Lib.hid (HBW.out.trans hb)
              have q0 := hb.cell q0
              have q1 := hb.cell q1
              have HBM := Lib.hid (HBM.out.bel hb)
              have HS := Lib.hid (HS.out.mono BlkR.mono hb)
              have HW := Lib.hid (HW.out.mono (IntR.mono _) hb)
              have p0 := hb.cell p0
              have p1 := hb.cell p1
              have Bp := Lib.hid (Bp.out.bel hb)
              clear hb
              go_wp2_with fail
              go_ret
              exact ⟨by first | rfl | simp, HBW.out⟩
            · have hn0' : ((N : Int) == 0) = false := by rw [beq_eq_false_iff_ne]; omega
              by_cases hid : id < 1
              · go_wp2_with fail
                refine (Find_any cap A nn c l N a _ _ HS.out hn (by omega) HFD).mono ?_
                rintro e v10 ⟨rfl, hb⟩
                have HBW := Lib.hid (HBW.out.trans hb)
                have q0 := hb.cell q0
                have q1 := hb.cell q1
                have HBM := Lib.hid (HBM.out.bel hb)
                have HS := Lib.hid (HS.out.mono BlkR.mono hb)
                have HW := Lib.hid (HW.out.mono (IntR.mono _) hb)
                clear hb
                go_wp2_with fail
                refine (Put_any cap A nn c l id a B N c2 ws _ HS.out hn HW.out hN (Lib.hid wf1) hwfa cap' l' nl e' hput hnl).mono ?_
                rintro e v11 ⟨A3, c3, rfl, s3, hb⟩
                have HBW := Lib.hid (HBW.out.trans hb)
                have q0 := hb.cell q0
                have q1 := hb.cell q1
                have HBM := Lib.hid (HBM.out.bel hb)
                have HS := Lib.hid (HS.out.mono BlkR.mono hb)
                have HW := Lib.hid (HW.out.mono (IntR.mono _) hb)
                clear s3
                clear hb
                have bp := Blk.new v11 26 #[.int .i64 cap', .slice A3 nl c3]
                have hb := (Bel.refl v11).alloc (.cells #[.int .i64 cap', .slice A3 nl c3] 26)
                have HBW := Lib.hid (HBW.out.trans hb)
                have q0 := hb.cell q0
                have q1 := hb.cell q1
                have HBM := Lib.hid (HBM.out.bel hb)
                have HS := Lib.hid (HS.out.mono BlkR.mono hb)
                have HW := Lib.hid (HW.out.mono (IntR.mono _) hb)
                have p0 := bp.cell 0 (v := .int .i64 cap') rfl
                have p1 := bp.cell 1 (v := .slice A3 nl c3) rfl
                have Bp := Lib.hid bp
                clear hb bp
                go_wp2_with fail
                generalize v11.alloc (.cells #[.int .i64 cap', .slice A3 nl c3] 26) = V11 at *
                generalize v11.heap.size = gp at *
                go_wp2_with fail
                refine (May_any cap A nn c l _ _ HS.out hn hmb).mono ?_
                rintro e v12 ⟨rfl, hb⟩
                have HBW := Lib.hid (HBW.out.trans hb)
                have q0 := hb.cell q0
                have q1 := hb.cell q1
                have HBM := Lib.hid (HBM.out.bel hb)
                have HS := Lib.hid (HS.out.mono BlkR.mono hb)
                have HW := Lib.hid (HW.out.mono (IntR.mono _) hb)
                have p0 := hb.cell p0
                have p1 := hb.cell p1
                have Bp := Lib.hid (Bp.out.bel hb)
                clear hb
                go_wp2_with fail
                go_ret
                exact ⟨by first | rfl | simp, HBW.out⟩
              · have hid' : ¬ id < 1 := hid
                have he4 : (e' == 4) = true := by have := TAIL.out; simpa [hn0', hid'] using this
                go_wp2_with fail
                refine (Find_any cap A nn c l N a _ _ HS.out hn (by omega) HFD).mono ?_
                rintro e v10 ⟨rfl, hb⟩
                have HBW := Lib.hid (HBW.out.trans hb)
                have q0 := hb.cell q0
                have q1 := hb.cell q1
                have HBM := Lib.hid (HBM.out.bel hb)
                have HS := Lib.hid (HS.out.mono BlkR.mono hb)
                have HW := Lib.hid (HW.out.mono (IntR.mono _) hb)
                clear hb
                go_wp2_with fail
                refine (Put_any cap A nn c l id a B N c2 ws _ HS.out hn HW.out hN (Lib.hid wf1) hwfa cap' l' nl e' hput hnl).mono ?_
                rintro e v11 ⟨A3, c3, rfl, s3, hb⟩
                have HBW := Lib.hid (HBW.out.trans hb)
                have q0 := hb.cell q0
                have q1 := hb.cell q1
                have HBM := Lib.hid (HBM.out.bel hb)
                have HS := Lib.hid (HS.out.mono BlkR.mono hb)
                have HW := Lib.hid (HW.out.mono (IntR.mono _) hb)
                clear s3
                clear hb
                have bp := Blk.new v11 26 #[.int .i64 cap', .slice A3 nl c3]
                have hb := (Bel.refl v11).alloc (.cells #[.int .i64 cap', .slice A3 nl c3] 26)
                have HBW := Lib.hid (HBW.out.trans hb)
                have q0 := hb.cell q0
                have q1 := hb.cell q1
                have HBM := Lib.hid (HBM.out.bel hb)
                have HS := Lib.hid (HS.out.mono BlkR.mono hb)
                have HW := Lib.hid (HW.out.mono (IntR.mono _) hb)
                have p0 := bp.cell 0 (v := .int .i64 cap') rfl
                have p1 := bp.cell 1 (v := .slice A3 nl c3) rfl
                have Bp := Lib.hid bp
                clear hb bp
                go_wp2_with fail
                generalize v11.alloc (.cells #[.int .i64 cap', .slice A3 nl c3] 26) = V11 at *
                generalize v11.heap.size = gp at *
                go_wp2_with fail
                refine (May_any cap A nn c l _ _ HS.out hn hmb).mono ?_
                rintro e v12 ⟨rfl, hb⟩
                have HBW := Lib.hid (HBW.out.trans hb)
                have q0 := hb.cell q0
                have q1 := hb.cell q1
                have HBM := Lib.hid (HBM.out.bel hb)
                have HS := Lib.hid (HS.out.mono BlkR.mono hb)
                have HW := Lib.hid (HW.out.mono (IntR.mono _) hb)
                have p0 := hb.cell p0
                have p1 := hb.cell p1
                have Bp := Lib.hid (Bp.out.bel hb)
                clear hb
                go_wp2_with fail
                go_ret
                exact ⟨by first | rfl | simp, HBW.out⟩
        · obtain rfl : fb2 = true := by simpa using hf2
          have he : (e' != 0) = true := by
            rcases HCASE.out.1 with h | h
            · cases h
            · simpa using h
          clear HCASE hf2
          cases mb
          · go_wp2_with fail
            refine (Find_any cap A nn c l N a _ _ HS.out hn (by omega) HFD).mono ?_
            rintro e v10 ⟨rfl, hb⟩
            have HBW := Lib.hid (HBW.out.trans hb)
            have q0 := hb.cell q0
            have q1 := hb.cell q1
            have HBM := Lib.hid (HBM.out.bel hb)
            have HS := Lib.hid (HS.out.mono BlkR.mono hb)
            have HW := Lib.hid (HW.out.mono (IntR.mono _) hb)
            clear hb
            go_wp2_with fail
            refine (Put_any cap A nn c l id a B N c2 ws _ HS.out hn HW.out hN (Lib.hid wf1) hwfa cap' l' nl e' hput hnl).mono ?_
            rintro e v11 ⟨A3, c3, rfl, s3, hb⟩
            have HBW := Lib.hid (HBW.out.trans hb)
            have q0 := hb.cell q0
            have q1 := hb.cell q1
            have HBM := Lib.hid (HBM.out.bel hb)
            have HS := Lib.hid (HS.out.mono BlkR.mono hb)
            have HW := Lib.hid (HW.out.mono (IntR.mono _) hb)
            clear s3
            clear hb
            have bp := Blk.new v11 26 #[.int .i64 cap', .slice A3 nl c3]
            have hb := (Bel.refl v11).alloc (.cells #[.int .i64 cap', .slice A3 nl c3] 26)
            have HBW := Lib.hid (HBW.out.trans hb)
            have q0 := hb.cell q0
            have q1 := hb.cell q1
            have HBM := Lib.hid (HBM.out.bel hb)
            have HS := Lib.hid (HS.out.mono BlkR.mono hb)
            have HW := Lib.hid (HW.out.mono (IntR.mono _) hb)
            have p0 := bp.cell 0 (v := .int .i64 cap') rfl
            have p1 := bp.cell 1 (v := .slice A3 nl c3) rfl
            have Bp := Lib.hid bp
            clear hb bp
            go_wp2_with fail
            generalize v11.alloc (.cells #[.int .i64 cap', .slice A3 nl c3] 26) = V11 at *
            generalize v11.heap.size = gp at *
            go_wp2_with fail
            refine (May_any cap A nn c l _ _ HS.out hn hmb).mono ?_
            rintro e v12 ⟨rfl, hb⟩
            have HBW := Lib.hid (HBW.out.trans hb)
            have q0 := hb.cell q0
            have q1 := hb.cell q1
            have HBM := Lib.hid (HBM.out.bel hb)
            have HS := Lib.hid (HS.out.mono BlkR.mono hb)
            have HW := Lib.hid (HW.out.mono (IntR.mono _) hb)
            have p0 := hb.cell p0
            have p1 := hb.cell p1
            have Bp := Lib.hid (Bp.out.bel hb)
            clear hb
            go_wp2_with fail
            go_ret
            exact ⟨by first | rfl | simp, HBW.out⟩
          · by_cases hn0 : N = 0
            · subst hn0
              go_wp2_with fail
              refine (Find_any cap A nn c l 0 a _ _ HS.out hn (by omega) HFD).mono ?_
              rintro e v10 ⟨rfl, hb⟩
              have HBW := Lib.hid (HBW.out.trans hb)
              have q0 := hb.cell q0
              have q1 := hb.cell q1
              have HBM := Lib.hid (HBM.out.bel hb)
              have HS := Lib.hid (HS.out.mono BlkR.mono hb)
              have HW := Lib.hid (HW.out.mono (IntR.mono _) hb)
              clear hb
              go_wp2_with fail
              refine (Put_any cap A nn c l id a B 0 c2 ws _ HS.out hn HW.out hN (Lib.hid wf1) hwfa cap' l' nl e' hput hnl).mono ?_
              rintro e v11 ⟨A3, c3, rfl, s3, hb⟩
              have HBW := Lib.hid (HBW.out.trans hb)
              have q0 := hb.cell q0
              have q1 := hb.cell q1
              have HBM := Lib.hid (HBM.out.bel hb)
              have HS := Lib.hid (HS.out.mono BlkR.mono hb)
              have HW := Lib.hid (HW.out.mono (IntR.mono _) hb)
              clear s3
              clear hb
              have bp := Blk.new v11 26 #[.int .i64 cap', .slice A3 nl c3]
              have hb := (Bel.refl v11).alloc (.cells #[.int .i64 cap', .slice A3 nl c3] 26)
              have HBW := Lib.hid (HBW.out.trans hb)
              have q0 := hb.cell q0
              have q1 := hb.cell q1
              have HBM := Lib.hid (HBM.out.bel hb)
              have HS := Lib.hid (HS.out.mono BlkR.mono hb)
              have HW := Lib.hid (HW.out.mono (IntR.mono _) hb)
              have p0 := bp.cell 0 (v := .int .i64 cap') rfl
              have p1 := bp.cell 1 (v := .slice A3 nl c3) rfl
              have Bp := Lib.hid bp
              clear hb bp
              go_wp2_with fail
              generalize v11.alloc (.cells #[.int .i64 cap', .slice A3 nl c3] 26) = V11 at *
              generalize v11.heap.size = gp at *
              go_wp2_with fail
              refine (May_any cap A nn c l _ _ HS.out hn hmb).mono ?_
              rintro e v12 ⟨rfl, hb⟩
              have HBW := Lib.hid (HBW.out.trans hb)
              have q0 := hb.cell q0
              have q1 := hb.cell q1
              have HBM := Lib.hid (HBM.out.bel hb)
              have HS := Lib.hid (HS.out.mono BlkR.mono hb)
              have HW := Lib.hid (HW.out.mono (IntR.mono _) hb)
              have p0 := hb.cell p0
              have p1 := hb.cell p1
              have Bp := Lib.hid (Bp.out.bel hb)
              clear hb
              go_wp2_with fail
              go_ret
              exact ⟨by first | rfl | simp, HBW.out⟩
            · have hn0' : ((N : Int) == 0) = false := by rw [beq_eq_false_iff_ne]; omega
              by_cases hid : id < 1
              · go_wp2_with fail
                refine (Find_any cap A nn c l N a _ _ HS.out hn (by omega) HFD).mono ?_
                rintro e v10 ⟨rfl, hb⟩
                have HBW := Lib.hid (HBW.out.trans hb)
                have q0 := hb.cell q0
                have q1 := hb.cell q1
                have HBM := Lib.hid (HBM.out.bel hb)
                have HS := Lib.hid (HS.out.mono BlkR.mono hb)
                have HW := Lib.hid (HW.out.mono (IntR.mono _) hb)
                clear hb
                go_wp2_with fail
                refine (Put_any cap A nn c l id a B N c2 ws _ HS.out hn HW.out hN (Lib.hid wf1) hwfa cap' l' nl e' hput hnl).mono ?_
                rintro e v11 ⟨A3, c3, rfl, s3, hb⟩
                have HBW := Lib.hid (HBW.out.trans hb)
                have q0 := hb.cell q0
                have q1 := hb.cell q1
                have HBM := Lib.hid (HBM.out.bel hb)
                have HS := Lib.hid (HS.out.mono BlkR.mono hb)
                have HW := Lib.hid (HW.out.mono (IntR.mono _) hb)
                clear s3
                clear hb
                have bp := Blk.new v11 26 #[.int .i64 cap', .slice A3 nl c3]
                have hb := (Bel.refl v11).alloc (.cells #[.int .i64 cap', .slice A3 nl c3] 26)
                have HBW := Lib.hid (HBW.out.trans hb)
                have q0 := hb.cell q0
                have q1 := hb.cell q1
                have HBM := Lib.hid (HBM.out.bel hb)
                have HS := Lib.hid (HS.out.mono BlkR.mono hb)
                have HW := Lib.hid (HW.out.mono (IntR.mono _) hb)
                have p0 := bp.cell 0 (v := .int .i64 cap') rfl
                have p1 := bp.cell 1 (v := .slice A3 nl c3) rfl
                have Bp := Lib.hid bp
                clear hb bp
                go_wp2_with fail
                generalize v11.alloc (.cells #[.int .i64 cap', .slice A3 nl c3] 26) = V11 at *
                generalize v11.heap.size = gp at *
                go_wp2_with fail
                refine (May_any cap A nn c l _ _ HS.out hn hmb).mono ?_
                rintro e v12 ⟨rfl, hb⟩
                have HBW := Lib.hid (HBW.out.trans hb)
                have q0 := hb.cell q0
                have q1 := hb.cell q1
                have HBM := Lib.hid (HBM.out.bel hb)
                have HS := Lib.hid (HS.out.mono BlkR.mono hb)
                have HW := Lib.hid (HW.out.mono (IntR.mono _) hb)
                have p0 := hb.cell p0
                have p1 := hb.cell p1
                have Bp := Lib.hid (Bp.out.bel hb)
                clear hb
                go_wp2_with fail
                go_ret
                exact ⟨by first | rfl | simp, HBW.out⟩
              · have hid' : ¬ id < 1 := hid
                have he4 : (e' == 4) = true := by have := TAIL.out; simpa [hn0', hid'] using this
                go_wp2_with fail
                refine (Find_any cap A nn c l N a _ _ HS.out hn (by omega) HFD).mono ?_
                rintro e v10 ⟨rfl, hb⟩
                have HBW := Lib.hid (HBW.out.trans hb)
                have q0 := hb.cell q0
                have q1 := hb.cell q1
                have HBM := Lib.hid (HBM.out.bel hb)
                have HS := Lib.hid (HS.out.mono BlkR.mono hb)
                have HW := Lib.hid (HW.out.mono (IntR.mono _) hb)
                clear hb
                go_wp2_with fail
                refine (Put_any cap A nn c l id a B N c2 ws _ HS.out hn HW.out hN (Lib.hid wf1) hwfa cap' l' nl e' hput hnl).mono ?_
                rintro e v11 ⟨A3, c3, rfl, s3, hb⟩
                have HBW := Lib.hid (HBW.out.trans hb)
                have q0 := hb.cell q0
                have q1 := hb.cell q1
                have HBM := Lib.hid (HBM.out.bel hb)
                have HS := Lib.hid (HS.out.mono BlkR.mono hb)
                have HW := Lib.hid (HW.out.mono (IntR.mono _) hb)
                clear s3
                clear hb
                have bp := Blk.new v11 26 #[.int .i64 cap', .slice A3 nl c3]
                have hb := (Bel.refl v11).alloc (.cells #[.int .i64 cap', .slice A3 nl c3] 26)
                have HBW := Lib.hid (HBW.out.trans hb)
                have q0 := hb.cell q0
                have q1 := hb.cell q1
                have HBM := Lib.hid (HBM.out.bel hb)
                have HS := Lib.hid (HS.out.mono BlkR.mono hb)
                have HW := Lib.hid (HW.out.mono (IntR.mono _) hb)
                have p0 := bp.cell 0 (v := .int .i64 cap') rfl
                have p1 := bp.cell 1 (v := .slice A3 nl c3) rfl
                have Bp := Lib.hid bp
                clear hb bp
                go_wp2_with fail
                generalize v11.alloc (.cells #[.int .i64 cap', .slice A3 nl c3] 26) = V11 at *
                generalize v11.heap.size = gp at *
                go_wp2_with fail
                refine (May_any cap A nn c l _ _ HS.out hn hmb).mono ?_
                rintro e v12 ⟨rfl, hb⟩
                have HBW := Lib.hid (HBW.out.trans hb)
                have q0 := hb.cell q0
                have q1 := hb.cell q1
                have HBM := Lib.hid (HBM.out.bel hb)
                have HS := Lib.hid (HS.out.mono BlkR.mono hb)
                have HW := Lib.hid (HW.out.mono (IntR.mono _) hb)
                have p0 := hb.cell p0
                have p1 := hb.cell p1
                have Bp := Lib.hid (Bp.out.bel hb)
                clear hb
                go_wp2_with fail
                go_ret
                exact ⟨by first | rfl | simp, HBW.out⟩
end Go.Proofs.Ytegdnmlpoglfeaa
