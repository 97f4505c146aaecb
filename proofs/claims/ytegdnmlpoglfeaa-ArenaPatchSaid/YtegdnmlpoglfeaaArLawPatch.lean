/- The walk of ArenaPatch. -/
import Derived.Test.YtegdnmlpoglfeaaArLaw3
set_option linter.unusedVariables false
set_option linter.unusedSimpArgs false
namespace Go.Proofs.Ytegdnmlpoglfeaa
open Go.RowKit

set_option maxRecDepth 100000 in
set_option maxHeartbeats 8000000 in
theorem ArenaPatch_walk (C0 : Array Value) (m : MemD) (place v other : Int) (w : World) (r0 : MemR w C0.toList m) (wf1 : (Lit.int .i64 place).wf = true) (wf2 : (Lit.int .u64 v).wf = true) (wf3 : (Lit.int .i64 other).wf = true) :
    Calls Try.prog 7 #[.agg C0, .int .i64 place, .int .u64 v, .int .i64 other] w fun e w' => e = .returned (.bool true) ∧ Bel w w' := by
  obtain ⟨cap, l⟩ := m
  obtain ⟨A, c, hcs, hs, hwf0⟩ := r0
  obtain rfl : C0 = #[.int .i64 cap, .slice A l.length c] := Array.toList_inj.1 hcs
  obtain ⟨nn, hn⟩ : ∃ nn, Hid (l.length = nn) := ⟨_, Lib.hid rfl⟩
  rw [hn.out]
  have bM := Blk.new w 26 #[.int .i64 cap, .slice A nn c]
  have q0 := bM.cell 0 (v := .int .i64 cap) rfl
  have q1 := bM.cell 1 (v := .slice A nn c) rfl
  have HBM := Lib.hid bM
  have HBW := Lib.hid ((Bel.refl w).alloc (.cells #[.int .i64 cap, .slice A nn c] 26))
  have HS := Lib.hid (hs.mono BlkR.mono HBW.out)
  obtain ⟨fb, hfb⟩ : ∃ fb, Hid (fewM ⟨cap, l⟩ = fb) := ⟨_, Lib.hid rfl⟩
  clear hs bM hcs
  go_enter Try.func7, Try.ntmps7
  go_wp2_with fail
  refine (awake13 _).mono ?_
  rintro e w1 ⟨rfl, hb⟩
  have HBW := Lib.hid (HBW.out.trans hb)
  have q0 := hb.cell q0
  have q1 := hb.cell q1
  have HBM := Lib.hid (HBM.out.bel hb)
  have HS := Lib.hid (HS.out.mono BlkR.mono hb)
  clear hb
  obtain ⟨g, hg⟩ : ∃ g, w.heap.size = g := ⟨_, rfl⟩
  have hg0 : w.heap.size ≤ g := by omega
  rw [hg] at q0 q1 HBM ⊢
  clear hg
  go_wp2_with fail
  refine (fewM_any cap A nn c l fb _ HS.out hn hfb).mono ?_
  rintro e w2 ⟨rfl, hb⟩
  have HBW := Lib.hid (HBW.out.trans hb)
  have q0 := hb.cell q0
  have q1 := hb.cell q1
  have HBM := Lib.hid (HBM.out.bel hb)
  have HS := Lib.hid (HS.out.mono BlkR.mono hb)
  clear hb
  cases fb
  · go_wp2_with fail
    go_ret
    exact ⟨by first | rfl | simp, HBW.out⟩
  · by_cases hgood : mayM ⟨cap, l⟩ = true ∧ ∃ i, blkOf l place = some i
    · obtain ⟨hmay, i, hbo⟩ := hgood
      have HOK : Hid (Ok ⟨cap, l⟩) := Lib.hid (mayM_iff.1 hmay)
      obtain ⟨was, hwv⟩ : ∃ was, (fetchM ⟨cap, l⟩ place).1 = was := ⟨_, rfl⟩
      obtain ⟨id, hid⟩ : ∃ id, (l[i]!).id = id := ⟨_, rfl⟩
      obtain ⟨l', z1, z2, z3, z4, z5, z6, -⟩ := patch_law (m := ⟨cap, l⟩) (p := place) (v := v) (q := other) HOK.out hbo
      simp only [hwv, hid] at z1 z2 z3 z4 z5 z6
      have HP := Lib.hid z1
      have hnl : Hid (l'.length = nn) := Lib.hid (z2.trans hn.out)
      have HF2 := Lib.hid z3
      have HPB := Lib.hid z5
      have HFM : Hid (fetchM ⟨cap, l⟩ place = (was, id, true)) := Lib.hid (by
        have := fetch_some HOK.out hbo
        rw [this] at hwv ⊢
        simp only at hwv ⊢
        rw [hwv, hid])
      have hwas : Hid ((Lit.int .u64 was).wf = true) := Lib.hid (by
        have hk := (blkOf_some HOK.out).1 hbo
        simp only at hk
        have := fetch_some HOK.out hbo
        rw [this] at hwv
        simp only at hwv
        obtain ⟨b0, o0, rfl⟩ := HS.out.addr (by omega)
        obtain ⟨A', c', -, -, -, hsw, -, -⟩ := blk_cells HS.out i hk.1
        obtain ⟨bw, ow, -, hcw⟩ := hsw.int_cell (by omega)
        have := (hcw (place - (l[i]!).at').toNat (by omega)).2
        rw [hwv] at this
        exact this)
      obtain ⟨lf, hlf⟩ : ∃ lf, leftM ⟨cap, l⟩ = lf := ⟨_, rfl⟩
      rw [hlf] at z6
      have HL := Lib.hid hlf
      have HL3 := Lib.hid z6
      by_cases hop : other = place
      · obtain rfl : place = other := hop.symm
        have HX := HF2
        have HY := HFM
        have t0 : (place == place) = true := by simp
        clear z1 z2 z3 z4 z5 z6 hlf hwv hid hbo hmay
        have HF : Hid (fetchM ⟨cap, l⟩ place = (was, id, true)) := HFM
        go_wp2_with fail
        refine (Fetch_any cap A nn c l place was id true _ HS.out hn HF).mono ?_
        rintro e v10 ⟨rfl, hb⟩
        have HBW := Lib.hid (HBW.out.trans hb)
        have q0 := hb.cell q0
        have q1 := hb.cell q1
        have HBM := Lib.hid (HBM.out.bel hb)
        have HS := Lib.hid (HS.out.mono BlkR.mono hb)
        clear hb
        go_wp2_with fail
        refine (Patch_any cap A nn c l place v _ HS.out hn (Lib.hid wf2) cap l' nn 0 HP hnl).mono ?_
        rintro e v11 ⟨A3, c3, rfl, s3, hb⟩
        have HBW := Lib.hid (HBW.out.trans hb)
        have q0 := hb.cell q0
        have q1 := hb.cell q1
        have HBM := Lib.hid (HBM.out.bel hb)
        have HS := Lib.hid (HS.out.mono BlkR.mono hb)
        have HS3 := Lib.hid s3.sl
        clear s3
        clear hb
        have bp := Blk.new v11 26 #[.int .i64 cap, .slice A3 nn c3]
        have hb := (Bel.refl v11).alloc (.cells #[.int .i64 cap, .slice A3 nn c3] 26)
        have HBW := Lib.hid (HBW.out.trans hb)
        have q0 := hb.cell q0
        have q1 := hb.cell q1
        have HBM := Lib.hid (HBM.out.bel hb)
        have HS := Lib.hid (HS.out.mono BlkR.mono hb)
        have HS3 := Lib.hid (HS3.out.mono BlkR.mono hb)
        have p0 := bp.cell 0 (v := .int .i64 cap) rfl
        have p1 := bp.cell 1 (v := .slice A3 nn c3) rfl
        have Bp := Lib.hid bp
        clear hb bp
        go_wp2_with fail
        generalize v11.alloc (.cells #[.int .i64 cap, .slice A3 nn c3] 26) = V11 at *
        generalize v11.heap.size = gp at *
        refine (Fetch_any cap A3 nn c3 l' place v id true _ HS3.out hnl HF2).mono ?_
        rintro e v21 ⟨rfl, hb⟩
        have HBW := Lib.hid (HBW.out.trans hb)
        have q0 := hb.cell q0
        have q1 := hb.cell q1
        have HBM := Lib.hid (HBM.out.bel hb)
        have HS := Lib.hid (HS.out.mono BlkR.mono hb)
        have HS3 := Lib.hid (HS3.out.mono BlkR.mono hb)
        have p0 := hb.cell p0
        have p1 := hb.cell p1
        have Bp := Lib.hid (Bp.out.bel hb)
        clear hb
        go_wp2_with fail
        refine (Fetch_any cap A3 nn c3 l' place v id true _ HS3.out hnl HX).mono ?_
        rintro e v12 ⟨rfl, hb⟩
        have HBW := Lib.hid (HBW.out.trans hb)
        have q0 := hb.cell q0
        have q1 := hb.cell q1
        have HBM := Lib.hid (HBM.out.bel hb)
        have HS := Lib.hid (HS.out.mono BlkR.mono hb)
        have HS3 := Lib.hid (HS3.out.mono BlkR.mono hb)
        have p0 := hb.cell p0
        have p1 := hb.cell p1
        have Bp := Lib.hid (Bp.out.bel hb)
        clear hb
        go_wp2_with fail
        refine (Fetch_any cap A nn c l place was id true _ HS.out hn HY).mono ?_
        rintro e v13 ⟨rfl, hb⟩
        have HBW := Lib.hid (HBW.out.trans hb)
        have q0 := hb.cell q0
        have q1 := hb.cell q1
        have HBM := Lib.hid (HBM.out.bel hb)
        have HS := Lib.hid (HS.out.mono BlkR.mono hb)
        have HS3 := Lib.hid (HS3.out.mono BlkR.mono hb)
        have p0 := hb.cell p0
        have p1 := hb.cell p1
        have Bp := Lib.hid (Bp.out.bel hb)
        clear hb
        go_wp2_with fail
        refine (Patch_any cap A3 nn c3 l' place was _ HS3.out hnl hwas cap l nn 0 HPB hn).mono ?_
        rintro e v14 ⟨A4, c4, rfl, s4, hb⟩
        have HBW := Lib.hid (HBW.out.trans hb)
        have q0 := hb.cell q0
        have q1 := hb.cell q1
        have HBM := Lib.hid (HBM.out.bel hb)
        have HS := Lib.hid (HS.out.mono BlkR.mono hb)
        have HS3 := Lib.hid (HS3.out.mono BlkR.mono hb)
        have p0 := hb.cell p0
        have p1 := hb.cell p1
        have Bp := Lib.hid (Bp.out.bel hb)
        have HS4 := Lib.hid s4.sl
        clear s4
        clear hb
        have bd := Blk.new v14 26 #[.int .i64 cap, .slice A4 nn c4]
        have hb := (Bel.refl v14).alloc (.cells #[.int .i64 cap, .slice A4 nn c4] 26)
        have HBW := Lib.hid (HBW.out.trans hb)
        have q0 := hb.cell q0
        have q1 := hb.cell q1
        have HBM := Lib.hid (HBM.out.bel hb)
        have HS := Lib.hid (HS.out.mono BlkR.mono hb)
        have HS3 := Lib.hid (HS3.out.mono BlkR.mono hb)
        have p0 := hb.cell p0
        have p1 := hb.cell p1
        have Bp := Lib.hid (Bp.out.bel hb)
        have HS4 := Lib.hid (HS4.out.mono BlkR.mono hb)
        have d0 := bd.cell 0 (v := .int .i64 cap) rfl
        have d1 := bd.cell 1 (v := .slice A4 nn c4) rfl
        have Bd := Lib.hid bd
        clear hb bd
        go_wp2_with fail
        generalize v14.alloc (.cells #[.int .i64 cap, .slice A4 nn c4] 26) = V14 at *
        generalize v14.heap.size = gd at *
        refine (refSame_any cap cap A4 A nn nn c4 c l l true _ HS4.out HS.out hn hn (Lib.hid (decide_eq_true rfl))).mono ?_
        rintro e W0 ⟨rfl, hb⟩
        have HBW := Lib.hid (HBW.out.trans hb)
        have q0 := hb.cell q0
        have q1 := hb.cell q1
        have HBM := Lib.hid (HBM.out.bel hb)
        have HS := Lib.hid (HS.out.mono BlkR.mono hb)
        have HS3 := Lib.hid (HS3.out.mono BlkR.mono hb)
        have p0 := hb.cell p0
        have p1 := hb.cell p1
        have Bp := Lib.hid (Bp.out.bel hb)
        have HS4 := Lib.hid (HS4.out.mono BlkR.mono hb)
        have d0 := hb.cell d0
        have d1 := hb.cell d1
        have Bd := Lib.hid (Bd.out.bel hb)
        clear hb
        go_wp2_with fail
        have Q0 := fun (w' : World) (h : Bel W0 w') => h.cell q0
        have Q1 := fun (w' : World) (h : Bel W0 w') => h.cell q1
        have P0 := fun (w' : World) (h : Bel W0 w') => h.cell p0
        have P1 := fun (w' : World) (h : Bel W0 w') => h.cell p1
        have HW := HBW.out
        have HR : Bel W0 W0.drew := (Bel.refl W0).drew
        clear q0 q1 p0 p1 d0 d1 HBM HBW Bp Bd HS4
        refine wp_region_T (fun w' => Bel W0 w') (fun _ => false) (by kernel_rfl) ?_
        refine wpAnyU_take (i := 0) (v := ?v0e) rfl (by kernel_rfl) (by kernel_rfl) (by kernel_rfl) (by kernel_rfl) (fun _ _ _ h => h) ?hy0e HR ?rest0e
        case hy0e => first | (refine Or.inl ⟨by rfl, ?_⟩; (intro w' hSw; go_simp) <;> with_reducible rfl) | (refine Or.inr ⟨by rfl, ?_⟩; with_reducible rfl)
        try simp only [List.getElem_toArray, List.getElem_cons_zero, List.getElem_cons_succ, Act.put, List.setIfInBounds_toArray, List.set_cons_zero, List.set_cons_succ]
        refine wpAnyU_take (i := 1) (v := ?v1e) rfl (by kernel_rfl) (by kernel_rfl) (by kernel_rfl) (by kernel_rfl) (fun _ _ _ h => h) ?hy1e HR ?rest1e
        case hy1e => first | (refine Or.inl ⟨by rfl, ?_⟩; (intro w' hSw; go_simp) <;> with_reducible rfl) | (refine Or.inr ⟨by rfl, ?_⟩; with_reducible rfl)
        try simp only [List.getElem_toArray, List.getElem_cons_zero, List.getElem_cons_succ, Act.put, List.setIfInBounds_toArray, List.set_cons_zero, List.set_cons_succ]
        refine wpAnyU_take (i := 2) (v := ?v2e) rfl (by kernel_rfl) (by kernel_rfl) (by kernel_rfl) (by kernel_rfl) (fun _ _ _ h => h) ?hy2e HR ?rest2e
        case hy2e => first | (refine Or.inl ⟨by rfl, ?_⟩; (intro w' hSw; go_simp) <;> with_reducible rfl) | (refine Or.inr ⟨by rfl, ?_⟩; with_reducible rfl)
        try simp only [List.getElem_toArray, List.getElem_cons_zero, List.getElem_cons_succ, Act.put, List.setIfInBounds_toArray, List.set_cons_zero, List.set_cons_succ]
        refine wpAnyU_take (i := 3) (v := ?v3e) rfl (by kernel_rfl) (by kernel_rfl) (by kernel_rfl) (by kernel_rfl) (fun _ _ _ h => h) ?hy3e HR ?rest3e
        case hy3e => first | (refine Or.inl ⟨by rfl, ?_⟩; (intro w' hSw; go_simp) <;> with_reducible rfl) | (refine Or.inr ⟨by rfl, ?_⟩; with_reducible rfl)
        try simp only [List.getElem_toArray, List.getElem_cons_zero, List.getElem_cons_succ, Act.put, List.setIfInBounds_toArray, List.set_cons_zero, List.set_cons_succ]
        refine wpAnyU_take (i := 4) (v := ?v4e) rfl (by kernel_rfl) (by kernel_rfl) (by kernel_rfl) (by kernel_rfl) (fun _ _ _ h => h) ?hy4e HR ?rest4e
        case hy4e => first | (refine Or.inl ⟨by rfl, ?_⟩; (intro w' hSw; go_simp) <;> with_reducible rfl) | (refine Or.inr ⟨by rfl, ?_⟩; with_reducible rfl)
        try simp only [List.getElem_toArray, List.getElem_cons_zero, List.getElem_cons_succ, Act.put, List.setIfInBounds_toArray, List.set_cons_zero, List.set_cons_succ]
        refine wpAnyU_take (i := 5) (v := ?v5e) rfl (by kernel_rfl) (by kernel_rfl) (by kernel_rfl) (by kernel_rfl) (fun _ _ _ h => h) ?hy5e HR ?rest5e
        case hy5e => first | (refine Or.inl ⟨by rfl, ?_⟩; (intro w' hSw; go_simp) <;> with_reducible rfl) | (refine Or.inr ⟨by rfl, ?_⟩; with_reducible rfl)
        try simp only [List.getElem_toArray, List.getElem_cons_zero, List.getElem_cons_succ, Act.put, List.setIfInBounds_toArray, List.set_cons_zero, List.set_cons_succ]
        refine wpAnyU_take (i := 6) (v := ?v6e) rfl (by kernel_rfl) (by kernel_rfl) (by kernel_rfl) (by kernel_rfl) (fun _ _ _ h => h) ?hy6e HR ?rest6e
        case hy6e => first | (refine Or.inl ⟨by rfl, ?_⟩; (intro w' hSw; go_simp) <;> with_reducible rfl) | (refine Or.inr ⟨by rfl, ?_⟩; with_reducible rfl)
        try simp only [List.getElem_toArray, List.getElem_cons_zero, List.getElem_cons_succ, Act.put, List.setIfInBounds_toArray, List.set_cons_zero, List.set_cons_succ]
        refine wpAnyU_take (i := 7) (v := ?v7e) rfl (by kernel_rfl) (by kernel_rfl) (by kernel_rfl) (by kernel_rfl) (fun _ _ _ h => h) ?hy7e HR ?rest7e
        case hy7e => first | (refine Or.inl ⟨by rfl, ?_⟩; (intro w' hSw; go_simp) <;> with_reducible rfl) | (refine Or.inr ⟨by rfl, ?_⟩; with_reducible rfl)
        try simp only [List.getElem_toArray, List.getElem_cons_zero, List.getElem_cons_succ, Act.put, List.setIfInBounds_toArray, List.set_cons_zero, List.set_cons_succ]
        refine wpAnyU_take (i := 8) (v := ?v8e) rfl (by kernel_rfl) (by kernel_rfl) (by kernel_rfl) (by kernel_rfl) (fun _ _ _ h => h) ?hy8e HR ?rest8e
        case hy8e => first | (refine Or.inl ⟨by rfl, ?_⟩; (intro w' hSw; go_simp) <;> with_reducible rfl) | (refine Or.inr ⟨by rfl, ?_⟩; with_reducible rfl)
        try simp only [List.getElem_toArray, List.getElem_cons_zero, List.getElem_cons_succ, Act.put, List.setIfInBounds_toArray, List.set_cons_zero, List.set_cons_succ]
        refine wpAnyU_take (i := 9) (v := ?v9e) rfl (by kernel_rfl) (by kernel_rfl) (by kernel_rfl) (by kernel_rfl) (fun _ _ _ h => h) ?hy9e HR ?rest9e
        case hy9e => first | (refine Or.inl ⟨by rfl, ?_⟩; (intro w' hSw; go_simp) <;> with_reducible rfl) | (refine Or.inr ⟨by rfl, ?_⟩; with_reducible rfl)
        try simp only [List.getElem_toArray, List.getElem_cons_zero, List.getElem_cons_succ, Act.put, List.setIfInBounds_toArray, List.set_cons_zero, List.set_cons_succ]
        refine wpAnyU_take (i := 10) (v := ?v10e) rfl (by kernel_rfl) (by kernel_rfl) (by kernel_rfl) (by kernel_rfl) (fun _ _ _ h => h) ?hy10e HR ?rest10e
        case hy10e => first | (refine Or.inl ⟨by rfl, ?_⟩; (intro w' hSw; go_simp) <;> with_reducible rfl) | (refine Or.inr ⟨by rfl, ?_⟩; with_reducible rfl)
        try simp only [List.getElem_toArray, List.getElem_cons_zero, List.getElem_cons_succ, Act.put, List.setIfInBounds_toArray, List.set_cons_zero, List.set_cons_succ]
        refine wpAnyU_take (i := 11) (v := ?v11e) rfl (by kernel_rfl) (by kernel_rfl) (by kernel_rfl) (by kernel_rfl) (fun _ _ _ h => h) ?hy11e HR ?rest11e
        case hy11e => first | (refine Or.inl ⟨by rfl, ?_⟩; (intro w' hSw; go_simp) <;> with_reducible rfl) | (refine Or.inr ⟨by rfl, ?_⟩; with_reducible rfl)
        try simp only [List.getElem_toArray, List.getElem_cons_zero, List.getElem_cons_succ, Act.put, List.setIfInBounds_toArray, List.set_cons_zero, List.set_cons_succ]
        refine wpAnyU_take (i := 12) (v := ?v12e) rfl (by kernel_rfl) (by kernel_rfl) (by kernel_rfl) (by kernel_rfl) (fun _ _ _ h => h) ?hy12e HR ?rest12e
        case hy12e => first | (refine Or.inl ⟨by rfl, ?_⟩; (intro w' hSw; go_simp) <;> with_reducible rfl) | (refine Or.inr ⟨by rfl, ?_⟩; with_reducible rfl)
        try simp only [List.getElem_toArray, List.getElem_cons_zero, List.getElem_cons_succ, Act.put, List.setIfInBounds_toArray, List.set_cons_zero, List.set_cons_succ]
        refine wpAnyU_take (i := 13) (v := ?v13e) rfl (by kernel_rfl) (by kernel_rfl) (by kernel_rfl) (by kernel_rfl) (fun _ _ _ h => h) ?hy13e HR ?rest13e
        case hy13e => first | (refine Or.inl ⟨by rfl, ?_⟩; (intro w' hSw; go_simp) <;> with_reducible rfl) | (refine Or.inr ⟨by rfl, ?_⟩; with_reducible rfl)
        try simp only [List.getElem_toArray, List.getElem_cons_zero, List.getElem_cons_succ, Act.put, List.setIfInBounds_toArray, List.set_cons_zero, List.set_cons_succ]
        refine wpAnyU_take (i := 14) (v := ?v14e) rfl (by kernel_rfl) (by kernel_rfl) (by kernel_rfl) (by kernel_rfl) (fun _ _ _ h => h) ?hy14e HR ?rest14e
        case hy14e => first | (refine Or.inl ⟨by rfl, ?_⟩; (intro w' hSw; go_simp) <;> with_reducible rfl) | (refine Or.inr ⟨by rfl, ?_⟩; with_reducible rfl)
        try simp only [List.getElem_toArray, List.getElem_cons_zero, List.getElem_cons_succ, Act.put, List.setIfInBounds_toArray, List.set_cons_zero, List.set_cons_succ]
        refine wpAnyU_take (i := 15) (v := ?v15e) rfl (by kernel_rfl) (by kernel_rfl) (by kernel_rfl) (by kernel_rfl) (fun _ _ _ h => h) ?hy15e HR ?rest15e
        case hy15e => first | (refine Or.inl ⟨by rfl, ?_⟩; (intro w' hSw; go_simp) <;> with_reducible rfl) | (refine Or.inr ⟨by rfl, ?_⟩; with_reducible rfl)
        try simp only [List.getElem_toArray, List.getElem_cons_zero, List.getElem_cons_succ, Act.put, List.setIfInBounds_toArray, List.set_cons_zero, List.set_cons_succ]
        refine wpAnyU_take (i := 16) (v := ?v16e) rfl (by kernel_rfl) (by kernel_rfl) (by kernel_rfl) (by kernel_rfl) (fun _ _ _ h => h) ?hy16e HR ?rest16e
        case hy16e => first | (refine Or.inl ⟨by rfl, ?_⟩; (intro w' hSw; go_simp) <;> with_reducible rfl) | (refine Or.inr ⟨by rfl, ?_⟩; with_reducible rfl)
        try simp only [List.getElem_toArray, List.getElem_cons_zero, List.getElem_cons_succ, Act.put, List.setIfInBounds_toArray, List.set_cons_zero, List.set_cons_succ]
        refine wpAnyU_take (i := 17) (v := ?v17e) rfl (by kernel_rfl) (by kernel_rfl) (by kernel_rfl) (by kernel_rfl) (fun _ _ _ h => h) ?hy17e HR ?rest17e
        case hy17e => first | (refine Or.inl ⟨by rfl, ?_⟩; (intro w' hSw; go_simp) <;> with_reducible rfl) | (refine Or.inr ⟨by rfl, ?_⟩; with_reducible rfl)
        try simp only [List.getElem_toArray, List.getElem_cons_zero, List.getElem_cons_succ, Act.put, List.setIfInBounds_toArray, List.set_cons_zero, List.set_cons_succ]
        refine wpAnyU_take (i := 18) (v := ?v18e) rfl (by kernel_rfl) (by kernel_rfl) (by kernel_rfl) (by kernel_rfl) (fun _ _ _ h => h) ?hy18e HR ?rest18e
        case hy18e => first | (refine Or.inl ⟨by rfl, ?_⟩; (intro w' hSw; go_simp) <;> with_reducible rfl) | (refine Or.inr ⟨by rfl, ?_⟩; with_reducible rfl)
        try simp only [List.getElem_toArray, List.getElem_cons_zero, List.getElem_cons_succ, Act.put, List.setIfInBounds_toArray, List.set_cons_zero, List.set_cons_succ]
        refine wpAnyU_take (i := 19) (v := ?v19e) rfl (by kernel_rfl) (by kernel_rfl) (by kernel_rfl) (by kernel_rfl) (fun _ _ _ h => h) ?hy19e HR ?rest19e
        case hy19e => first | (refine Or.inl ⟨by rfl, ?_⟩; (intro w' hSw; go_simp) <;> with_reducible rfl) | (refine Or.inr ⟨by rfl, ?_⟩; with_reducible rfl)
        try simp only [List.getElem_toArray, List.getElem_cons_zero, List.getElem_cons_succ, Act.put, List.setIfInBounds_toArray, List.set_cons_zero, List.set_cons_succ]
        refine wpAnyU_take (i := 20) (v := ?v20e) rfl (by kernel_rfl) (by kernel_rfl) (by kernel_rfl) (by kernel_rfl) (fun _ _ _ h => h) ?hy20e HR ?rest20e
        case hy20e => first | (refine Or.inl ⟨by rfl, ?_⟩; (intro w' hSw; go_simp) <;> with_reducible rfl) | (refine Or.inr ⟨by rfl, ?_⟩; with_reducible rfl)
        try simp only [List.getElem_toArray, List.getElem_cons_zero, List.getElem_cons_succ, Act.put, List.setIfInBounds_toArray, List.set_cons_zero, List.set_cons_succ]
        refine wpAnyU_take (i := 21) (v := ?v21e) rfl (by kernel_rfl) (by kernel_rfl) (by kernel_rfl) (by kernel_rfl) (fun _ _ _ h => h) ?hy21e HR ?rest21e
        case hy21e => first | (refine Or.inl ⟨by rfl, ?_⟩; (intro w' hSw; go_simp) <;> with_reducible rfl) | (refine Or.inr ⟨by rfl, ?_⟩; with_reducible rfl)
        try simp only [List.getElem_toArray, List.getElem_cons_zero, List.getElem_cons_succ, Act.put, List.setIfInBounds_toArray, List.set_cons_zero, List.set_cons_succ]
        refine wpAnyU_take (i := 22) (v := ?v22e) rfl (by kernel_rfl) (by kernel_rfl) (by kernel_rfl) (by kernel_rfl) (fun _ _ _ h => h) ?hy22e HR ?rest22e
        case hy22e => first | (refine Or.inl ⟨by rfl, ?_⟩; (intro w' hSw; go_simp) <;> with_reducible rfl) | (refine Or.inr ⟨by rfl, ?_⟩; with_reducible rfl)
        try simp only [List.getElem_toArray, List.getElem_cons_zero, List.getElem_cons_succ, Act.put, List.setIfInBounds_toArray, List.set_cons_zero, List.set_cons_succ]
        refine wpAnyU_take (i := 23) (v := ?v23e) rfl (by kernel_rfl) (by kernel_rfl) (by kernel_rfl) (by kernel_rfl) (fun _ _ _ h => h) ?hy23e HR ?rest23e
        case hy23e => first | (refine Or.inl ⟨by rfl, ?_⟩; (intro w' hSw; go_simp) <;> with_reducible rfl) | (refine Or.inr ⟨by rfl, ?_⟩; with_reducible rfl)
        try simp only [List.getElem_toArray, List.getElem_cons_zero, List.getElem_cons_succ, Act.put, List.setIfInBounds_toArray, List.set_cons_zero, List.set_cons_succ]
        refine wpAnyU_take (i := 24) (v := ?v24e) rfl (by kernel_rfl) (by kernel_rfl) (by kernel_rfl) (by kernel_rfl) (fun _ _ _ h => h) ?hy24e HR ?rest24e
        case hy24e => first | (refine Or.inl ⟨by rfl, ?_⟩; (intro w' hSw; go_simp) <;> with_reducible rfl) | (refine Or.inr ⟨by rfl, ?_⟩; with_reducible rfl)
        try simp only [List.getElem_toArray, List.getElem_cons_zero, List.getElem_cons_succ, Act.put, List.setIfInBounds_toArray, List.set_cons_zero, List.set_cons_succ]
        refine wpAnyU_take (i := 25) (v := ?v25e) rfl (by kernel_rfl) (by kernel_rfl) (by kernel_rfl) (by kernel_rfl) (fun _ _ _ h => h) ?hy25e HR ?rest25e
        case hy25e => first | (refine Or.inl ⟨by rfl, ?_⟩; (intro w' hSw; go_simp) <;> with_reducible rfl) | (refine Or.inr ⟨by rfl, ?_⟩; with_reducible rfl)
        try simp only [List.getElem_toArray, List.getElem_cons_zero, List.getElem_cons_succ, Act.put, List.setIfInBounds_toArray, List.set_cons_zero, List.set_cons_succ]
        refine wpAnyU_take (i := 26) (v := ?v26e) rfl (by kernel_rfl) (by kernel_rfl) (by kernel_rfl) (by kernel_rfl) (fun _ _ _ h => h) ?hy26e HR ?rest26e
        case hy26e => first | (refine Or.inl ⟨by rfl, ?_⟩; (intro w' hSw; go_simp) <;> with_reducible rfl) | (refine Or.inr ⟨by rfl, ?_⟩; with_reducible rfl)
        try simp only [List.getElem_toArray, List.getElem_cons_zero, List.getElem_cons_succ, Act.put, List.setIfInBounds_toArray, List.set_cons_zero, List.set_cons_succ]
        refine wpAnyU_take (i := 27) (v := ?v27e) rfl (by kernel_rfl) (by kernel_rfl) (by kernel_rfl) (by kernel_rfl) (fun _ _ _ h => h) ?hy27e HR ?rest27e
        case hy27e => first | (refine Or.inl ⟨by rfl, ?_⟩; (intro w' hSw; go_simp) <;> with_reducible rfl) | (refine Or.inr ⟨by rfl, ?_⟩; with_reducible rfl)
        try simp only [List.getElem_toArray, List.getElem_cons_zero, List.getElem_cons_succ, Act.put, List.setIfInBounds_toArray, List.set_cons_zero, List.set_cons_succ]
        refine wpAnyU_take (i := 28) (v := ?v28e) rfl (by kernel_rfl) (by kernel_rfl) (by kernel_rfl) (by kernel_rfl) (fun _ _ _ h => h) ?hy28e HR ?rest28e
        case hy28e => first | (refine Or.inl ⟨by rfl, ?_⟩; (intro w' hSw; go_simp) <;> with_reducible rfl) | (refine Or.inr ⟨by rfl, ?_⟩; with_reducible rfl)
        try simp only [List.getElem_toArray, List.getElem_cons_zero, List.getElem_cons_succ, Act.put, List.setIfInBounds_toArray, List.set_cons_zero, List.set_cons_succ]
        refine wpAnyU_take (i := 29) (v := ?v29e) rfl (by kernel_rfl) (by kernel_rfl) (by kernel_rfl) (by kernel_rfl) (fun _ _ _ h => h) ?hy29e HR ?rest29e
        case hy29e => first | (refine Or.inl ⟨by rfl, ?_⟩; (intro w' hSw; go_simp) <;> with_reducible rfl) | (refine Or.inr ⟨by rfl, ?_⟩; with_reducible rfl)
        try simp only [List.getElem_toArray, List.getElem_cons_zero, List.getElem_cons_succ, Act.put, List.setIfInBounds_toArray, List.set_cons_zero, List.set_cons_succ]
        refine wpAnyU_take (i := 30) (v := ?v30e) rfl (by kernel_rfl) (by kernel_rfl) (by kernel_rfl) (by kernel_rfl) (fun _ _ _ h => h) ?hy30e HR ?rest30e
        case hy30e => first | (refine Or.inl ⟨by rfl, ?_⟩; (intro w' hSw; go_simp) <;> with_reducible rfl) | (refine Or.inr ⟨by rfl, ?_⟩; with_reducible rfl)
        try simp only [List.getElem_toArray, List.getElem_cons_zero, List.getElem_cons_succ, Act.put, List.setIfInBounds_toArray, List.set_cons_zero, List.set_cons_succ]
        refine wpAnyU_take (i := 31) (v := ?v31e) rfl (by kernel_rfl) (by kernel_rfl) (by kernel_rfl) (by kernel_rfl) (fun _ _ _ h => h) ?hy31e HR ?rest31e
        case hy31e => first | (refine Or.inl ⟨by rfl, ?_⟩; (intro w' hSw; go_simp) <;> with_reducible rfl) | (refine Or.inr ⟨by rfl, ?_⟩; with_reducible rfl)
        try simp only [List.getElem_toArray, List.getElem_cons_zero, List.getElem_cons_succ, Act.put, List.setIfInBounds_toArray, List.set_cons_zero, List.set_cons_succ]
        refine wpAnyU_take (i := 32) (v := ?v32e) rfl (by kernel_rfl) (by kernel_rfl) (by kernel_rfl) (by kernel_rfl) (fun _ _ _ h => h) ?hy32e HR ?rest32e
        case hy32e => first | (refine Or.inl ⟨by rfl, ?_⟩; (intro w' hSw; go_simp) <;> with_reducible rfl) | (refine Or.inr ⟨by rfl, ?_⟩; with_reducible rfl)
        try simp only [List.getElem_toArray, List.getElem_cons_zero, List.getElem_cons_succ, Act.put, List.setIfInBounds_toArray, List.set_cons_zero, List.set_cons_succ]
        refine wpAnyU_take (i := 33) (v := ?v33e) rfl (by kernel_rfl) (by kernel_rfl) (by kernel_rfl) (by kernel_rfl) (fun _ _ _ h => h) ?hy33e HR ?rest33e
        case hy33e => first | (refine Or.inl ⟨by rfl, ?_⟩; (intro w' hSw; go_simp) <;> with_reducible rfl) | (refine Or.inr ⟨by rfl, ?_⟩; with_reducible rfl)
        try simp only [List.getElem_toArray, List.getElem_cons_zero, List.getElem_cons_succ, Act.put, List.setIfInBounds_toArray, List.set_cons_zero, List.set_cons_succ]
        refine wpAnyU_take (i := 34) (v := ?v34e) rfl (by kernel_rfl) (by kernel_rfl) (by kernel_rfl) (by kernel_rfl) (fun _ _ _ h => h) ?hy34e HR ?rest34e
        case hy34e => first | (refine Or.inl ⟨by rfl, ?_⟩; (intro w' hSw; go_simp) <;> with_reducible rfl) | (refine Or.inr ⟨by rfl, ?_⟩; with_reducible rfl)
        try simp only [List.getElem_toArray, List.getElem_cons_zero, List.getElem_cons_succ, Act.put, List.setIfInBounds_toArray, List.set_cons_zero, List.set_cons_succ]
        refine wpAnyU_take (i := 35) (v := ?v35e) rfl (by kernel_rfl) (by kernel_rfl) (by kernel_rfl) (by kernel_rfl) (fun _ _ _ h => h) ?hy35e HR ?rest35e
        case hy35e => first | (refine Or.inl ⟨by rfl, ?_⟩; (intro w' hSw; go_simp) <;> with_reducible rfl) | (refine Or.inr ⟨by rfl, ?_⟩; with_reducible rfl)
        try simp only [List.getElem_toArray, List.getElem_cons_zero, List.getElem_cons_succ, Act.put, List.setIfInBounds_toArray, List.set_cons_zero, List.set_cons_succ]
        refine wpAnyU_take (i := 36) (v := ?v36e) rfl (by kernel_rfl) (by kernel_rfl) (by kernel_rfl) (by kernel_rfl) (fun _ _ _ h => h) ?hy36e HR ?rest36e
        case hy36e => first | (refine Or.inl ⟨by rfl, ?_⟩; (intro w' hSw; go_simp) <;> with_reducible rfl) | (refine Or.inr ⟨by rfl, ?_⟩; with_reducible rfl)
        try simp only [List.getElem_toArray, List.getElem_cons_zero, List.getElem_cons_succ, Act.put, List.setIfInBounds_toArray, List.set_cons_zero, List.set_cons_succ]
        refine wpAnyU_take (i := 37) (v := ?v37e) rfl (by kernel_rfl) (by kernel_rfl) (by kernel_rfl) (by kernel_rfl) (fun _ _ _ h => h) ?hy37e HR ?rest37e
        case hy37e => first | (refine Or.inl ⟨by rfl, ?_⟩; (intro w' hSw; go_simp) <;> with_reducible rfl) | (refine Or.inr ⟨by rfl, ?_⟩; with_reducible rfl)
        try simp only [List.getElem_toArray, List.getElem_cons_zero, List.getElem_cons_succ, Act.put, List.setIfInBounds_toArray, List.set_cons_zero, List.set_cons_succ]
        refine wpAnyU_take (i := 38) (v := ?v38e) rfl (by kernel_rfl) (by kernel_rfl) (by kernel_rfl) (by kernel_rfl) (fun _ _ _ h => h) ?hy38e HR ?rest38e
        case hy38e => first | (refine Or.inl ⟨by rfl, ?_⟩; (intro w' hSw; go_simp) <;> with_reducible rfl) | (refine Or.inr ⟨by rfl, ?_⟩; with_reducible rfl)
        try simp only [List.getElem_toArray, List.getElem_cons_zero, List.getElem_cons_succ, Act.put, List.setIfInBounds_toArray, List.set_cons_zero, List.set_cons_succ]
        refine wpAnyU_take (i := 39) (v := ?v39e) rfl (by kernel_rfl) (by kernel_rfl) (by kernel_rfl) (by kernel_rfl) (fun _ _ _ h => h) ?hy39e HR ?rest39e
        case hy39e => first | (refine Or.inl ⟨by rfl, ?_⟩; (intro w' hSw; go_simp) <;> with_reducible rfl) | (refine Or.inr ⟨by rfl, ?_⟩; with_reducible rfl)
        try simp only [List.getElem_toArray, List.getElem_cons_zero, List.getElem_cons_succ, Act.put, List.setIfInBounds_toArray, List.set_cons_zero, List.set_cons_succ]
        refine wpAnyU_take (i := 40) (v := ?v40e) rfl (by kernel_rfl) (by kernel_rfl) (by kernel_rfl) (by kernel_rfl) (fun _ _ _ h => h) ?hy40e HR ?rest40e
        case hy40e => first | (refine Or.inl ⟨by rfl, ?_⟩; (intro w' hSw; go_simp) <;> with_reducible rfl) | (refine Or.inr ⟨by rfl, ?_⟩; with_reducible rfl)
        try simp only [List.getElem_toArray, List.getElem_cons_zero, List.getElem_cons_succ, Act.put, List.setIfInBounds_toArray, List.set_cons_zero, List.set_cons_succ]
        refine wpAnyU_take (i := 41) (v := ?v41e) rfl (by kernel_rfl) (by kernel_rfl) (by kernel_rfl) (by kernel_rfl) (fun _ _ _ h => h) ?hy41e HR ?rest41e
        case hy41e => first | (refine Or.inl ⟨by rfl, ?_⟩; (intro w' hSw; go_simp) <;> with_reducible rfl) | (refine Or.inr ⟨by rfl, ?_⟩; with_reducible rfl)
        try simp only [List.getElem_toArray, List.getElem_cons_zero, List.getElem_cons_succ, Act.put, List.setIfInBounds_toArray, List.set_cons_zero, List.set_cons_succ]
        refine wpAnyU_take (i := 42) (v := ?v42e) rfl (by kernel_rfl) (by kernel_rfl) (by kernel_rfl) (by kernel_rfl) (fun _ _ _ h => h) ?hy42e HR ?rest42e
        case hy42e => first | (refine Or.inl ⟨by rfl, ?_⟩; (intro w' hSw; go_simp) <;> with_reducible rfl) | (refine Or.inr ⟨by rfl, ?_⟩; with_reducible rfl)
        try simp only [List.getElem_toArray, List.getElem_cons_zero, List.getElem_cons_succ, Act.put, List.setIfInBounds_toArray, List.set_cons_zero, List.set_cons_succ]
        refine wpAnyU_take (i := 44) (v := ?v44e) rfl (by kernel_rfl) (by kernel_rfl) (by kernel_rfl) (by kernel_rfl) (fun _ _ _ h => h) ?hy44e HR ?rest44e
        case hy44e => first | (refine Or.inl ⟨by rfl, ?_⟩; (intro w' hSw; go_simp) <;> with_reducible rfl) | (refine Or.inr ⟨by rfl, ?_⟩; with_reducible rfl)
        try simp only [List.getElem_toArray, List.getElem_cons_zero, List.getElem_cons_succ, Act.put, List.setIfInBounds_toArray, List.set_cons_zero, List.set_cons_succ]
        refine wpAnyT_one (i := 43) (by kernel_rfl) rfl (fun K hK => ?_)
        go_simp
        go_at_call 12
        refine (Left_any cap A3 nn c3 l' lf _ (HS3.out.mono BlkR.mono HR) hnl HL3).mono ?_
        rintro e w51 ⟨rfl, hb1⟩
        have HR43 : Bel W0 w51 := HR.trans hb1
        refine hK.out _ _ (fun _ => HR43) ?_
        clear hK K
        try simp only [List.getElem_toArray, List.getElem_cons_zero, List.getElem_cons_succ, Act.put, List.setIfInBounds_toArray, List.set_cons_zero, List.set_cons_succ]
        refine wpAnyT_one (i := 45) (by kernel_rfl) rfl (fun K hK => ?_)
        go_simp
        go_at_call 12
        refine (Left_any cap A nn c l lf _ (HS.out.mono BlkR.mono HR43) hn HL).mono ?_
        rintro e w52 ⟨rfl, hb2⟩
        have HR45 : Bel W0 w52 := HR43.trans hb2
        refine hK.out _ _ (fun _ => HR45) ?_
        clear hK K
        try simp only [List.getElem_toArray, List.getElem_cons_zero, List.getElem_cons_succ, Act.put, List.setIfInBounds_toArray, List.set_cons_zero, List.set_cons_succ]
        refine wpAnyU_take (i := 46) (v := ?v46e) rfl (by kernel_rfl) (by kernel_rfl) (by kernel_rfl) (by kernel_rfl) (fun _ _ _ h => h) ?hy46e HR45 ?rest46e
        case hy46e => first | (refine Or.inl ⟨by rfl, ?_⟩; (intro w' hSw; go_simp) <;> with_reducible rfl) | (refine Or.inr ⟨by rfl, ?_⟩; with_reducible rfl)
        try simp only [List.getElem_toArray, List.getElem_cons_zero, List.getElem_cons_succ, Act.put, List.setIfInBounds_toArray, List.set_cons_zero, List.set_cons_succ]
        refine wpAnyU_take (i := 47) (v := ?v47e) rfl (by kernel_rfl) (by kernel_rfl) (by kernel_rfl) (by kernel_rfl) (fun _ _ _ h => h) ?hy47e HR45 ?rest47e
        case hy47e => first | (refine Or.inl ⟨by rfl, ?_⟩; (intro w' hSw; go_simp) <;> with_reducible rfl) | (refine Or.inr ⟨by rfl, ?_⟩; with_reducible rfl)
        try simp only [List.getElem_toArray, List.getElem_cons_zero, List.getElem_cons_succ, Act.put, List.setIfInBounds_toArray, List.set_cons_zero, List.set_cons_succ]
        refine wpAnyU_take (i := 48) (v := ?v48e) rfl (by kernel_rfl) (by kernel_rfl) (by kernel_rfl) (by kernel_rfl) (fun _ _ _ h => h) ?hy48e HR45 ?rest48e
        case hy48e => first | (refine Or.inl ⟨by rfl, ?_⟩; (intro w' hSw; go_simp) <;> with_reducible rfl) | (refine Or.inr ⟨by rfl, ?_⟩; with_reducible rfl)
        try simp only [List.getElem_toArray, List.getElem_cons_zero, List.getElem_cons_succ, Act.put, List.setIfInBounds_toArray, List.set_cons_zero, List.set_cons_succ]
        refine wpAnyT_done (by kernel_rfl) ?_ _
        refine NoPanic.normal ?_
        go_wp2
        go_ret
        exact ⟨by first | (simp; done) | (simp; omega), HW.trans HR45⟩
      · obtain ⟨y1, y2, y3, hy⟩ : ∃ a b d, fetchM ⟨cap, l⟩ other = (a, b, d) := ⟨_, _, _, rfl⟩
        have HY := Lib.hid hy
        have HX : Hid (fetchM ⟨cap, l'⟩ other = (y1, y2, y3)) := Lib.hid (by
          rcases z4 with h | h
          · exact absurd h hop
          · rw [h, hy])
        have t0 : (other == place) = false := by simpa using hop
        clear z1 z2 z3 z4 z5 z6 hlf hwv hid hbo hmay hy hop
        have HF : Hid (fetchM ⟨cap, l⟩ place = (was, id, true)) := HFM
        go_wp2_with fail
        refine (Fetch_any cap A nn c l place was id true _ HS.out hn HF).mono ?_
        rintro e v10 ⟨rfl, hb⟩
        have HBW := Lib.hid (HBW.out.trans hb)
        have q0 := hb.cell q0
        have q1 := hb.cell q1
        have HBM := Lib.hid (HBM.out.bel hb)
        have HS := Lib.hid (HS.out.mono BlkR.mono hb)
        clear hb
        go_wp2_with fail
        refine (Patch_any cap A nn c l place v _ HS.out hn (Lib.hid wf2) cap l' nn 0 HP hnl).mono ?_
        rintro e v11 ⟨A3, c3, rfl, s3, hb⟩
        have HBW := Lib.hid (HBW.out.trans hb)
        have q0 := hb.cell q0
        have q1 := hb.cell q1
        have HBM := Lib.hid (HBM.out.bel hb)
        have HS := Lib.hid (HS.out.mono BlkR.mono hb)
        have HS3 := Lib.hid s3.sl
        clear s3
        clear hb
        have bp := Blk.new v11 26 #[.int .i64 cap, .slice A3 nn c3]
        have hb := (Bel.refl v11).alloc (.cells #[.int .i64 cap, .slice A3 nn c3] 26)
        have HBW := Lib.hid (HBW.out.trans hb)
        have q0 := hb.cell q0
        have q1 := hb.cell q1
        have HBM := Lib.hid (HBM.out.bel hb)
        have HS := Lib.hid (HS.out.mono BlkR.mono hb)
        have HS3 := Lib.hid (HS3.out.mono BlkR.mono hb)
        have p0 := bp.cell 0 (v := .int .i64 cap) rfl
        have p1 := bp.cell 1 (v := .slice A3 nn c3) rfl
        have Bp := Lib.hid bp
        clear hb bp
        go_wp2_with fail
        generalize v11.alloc (.cells #[.int .i64 cap, .slice A3 nn c3] 26) = V11 at *
        generalize v11.heap.size = gp at *
        refine (Fetch_any cap A3 nn c3 l' place v id true _ HS3.out hnl HF2).mono ?_
        rintro e v21 ⟨rfl, hb⟩
        have HBW := Lib.hid (HBW.out.trans hb)
        have q0 := hb.cell q0
        have q1 := hb.cell q1
        have HBM := Lib.hid (HBM.out.bel hb)
        have HS := Lib.hid (HS.out.mono BlkR.mono hb)
        have HS3 := Lib.hid (HS3.out.mono BlkR.mono hb)
        have p0 := hb.cell p0
        have p1 := hb.cell p1
        have Bp := Lib.hid (Bp.out.bel hb)
        clear hb
        go_wp2_with fail
        refine (Fetch_any cap A3 nn c3 l' other y1 y2 y3 _ HS3.out hnl HX).mono ?_
        rintro e v12 ⟨rfl, hb⟩
        have HBW := Lib.hid (HBW.out.trans hb)
        have q0 := hb.cell q0
        have q1 := hb.cell q1
        have HBM := Lib.hid (HBM.out.bel hb)
        have HS := Lib.hid (HS.out.mono BlkR.mono hb)
        have HS3 := Lib.hid (HS3.out.mono BlkR.mono hb)
        have p0 := hb.cell p0
        have p1 := hb.cell p1
        have Bp := Lib.hid (Bp.out.bel hb)
        clear hb
        go_wp2_with fail
        refine (Fetch_any cap A nn c l other y1 y2 y3 _ HS.out hn HY).mono ?_
        rintro e v13 ⟨rfl, hb⟩
        have HBW := Lib.hid (HBW.out.trans hb)
        have q0 := hb.cell q0
        have q1 := hb.cell q1
        have HBM := Lib.hid (HBM.out.bel hb)
        have HS := Lib.hid (HS.out.mono BlkR.mono hb)
        have HS3 := Lib.hid (HS3.out.mono BlkR.mono hb)
        have p0 := hb.cell p0
        have p1 := hb.cell p1
        have Bp := Lib.hid (Bp.out.bel hb)
        clear hb
        go_wp2_with fail
        refine (Patch_any cap A3 nn c3 l' place was _ HS3.out hnl hwas cap l nn 0 HPB hn).mono ?_
        rintro e v14 ⟨A4, c4, rfl, s4, hb⟩
        have HBW := Lib.hid (HBW.out.trans hb)
        have q0 := hb.cell q0
        have q1 := hb.cell q1
        have HBM := Lib.hid (HBM.out.bel hb)
        have HS := Lib.hid (HS.out.mono BlkR.mono hb)
        have HS3 := Lib.hid (HS3.out.mono BlkR.mono hb)
        have p0 := hb.cell p0
        have p1 := hb.cell p1
        have Bp := Lib.hid (Bp.out.bel hb)
        have HS4 := Lib.hid s4.sl
        clear s4
        clear hb
        have bd := Blk.new v14 26 #[.int .i64 cap, .slice A4 nn c4]
        have hb := (Bel.refl v14).alloc (.cells #[.int .i64 cap, .slice A4 nn c4] 26)
        have HBW := Lib.hid (HBW.out.trans hb)
        have q0 := hb.cell q0
        have q1 := hb.cell q1
        have HBM := Lib.hid (HBM.out.bel hb)
        have HS := Lib.hid (HS.out.mono BlkR.mono hb)
        have HS3 := Lib.hid (HS3.out.mono BlkR.mono hb)
        have p0 := hb.cell p0
        have p1 := hb.cell p1
        have Bp := Lib.hid (Bp.out.bel hb)
        have HS4 := Lib.hid (HS4.out.mono BlkR.mono hb)
        have d0 := bd.cell 0 (v := .int .i64 cap) rfl
        have d1 := bd.cell 1 (v := .slice A4 nn c4) rfl
        have Bd := Lib.hid bd
        clear hb bd
        go_wp2_with fail
        generalize v14.alloc (.cells #[.int .i64 cap, .slice A4 nn c4] 26) = V14 at *
        generalize v14.heap.size = gd at *
        refine (refSame_any cap cap A4 A nn nn c4 c l l true _ HS4.out HS.out hn hn (Lib.hid (decide_eq_true rfl))).mono ?_
        rintro e W0 ⟨rfl, hb⟩
        have HBW := Lib.hid (HBW.out.trans hb)
        have q0 := hb.cell q0
        have q1 := hb.cell q1
        have HBM := Lib.hid (HBM.out.bel hb)
        have HS := Lib.hid (HS.out.mono BlkR.mono hb)
        have HS3 := Lib.hid (HS3.out.mono BlkR.mono hb)
        have p0 := hb.cell p0
        have p1 := hb.cell p1
        have Bp := Lib.hid (Bp.out.bel hb)
        have HS4 := Lib.hid (HS4.out.mono BlkR.mono hb)
        have d0 := hb.cell d0
        have d1 := hb.cell d1
        have Bd := Lib.hid (Bd.out.bel hb)
        clear hb
        go_wp2_with fail
        have Q0 := fun (w' : World) (h : Bel W0 w') => h.cell q0
        have Q1 := fun (w' : World) (h : Bel W0 w') => h.cell q1
        have P0 := fun (w' : World) (h : Bel W0 w') => h.cell p0
        have P1 := fun (w' : World) (h : Bel W0 w') => h.cell p1
        have HW := HBW.out
        have HR : Bel W0 W0.drew := (Bel.refl W0).drew
        clear q0 q1 p0 p1 d0 d1 HBM HBW Bp Bd HS4
        refine wp_region_T (fun w' => Bel W0 w') (fun _ => false) (by kernel_rfl) ?_
        refine wpAnyU_take (i := 0) (v := ?v0) rfl (by kernel_rfl) (by kernel_rfl) (by kernel_rfl) (by kernel_rfl) (fun _ _ _ h => h) ?hy0 HR ?rest0
        case hy0 => first | (refine Or.inl ⟨by rfl, ?_⟩; (intro w' hSw; go_simp) <;> with_reducible rfl) | (refine Or.inr ⟨by rfl, ?_⟩; with_reducible rfl)
        try simp only [List.getElem_toArray, List.getElem_cons_zero, List.getElem_cons_succ, Act.put, List.setIfInBounds_toArray, List.set_cons_zero, List.set_cons_succ]
        refine wpAnyU_take (i := 1) (v := ?v1) rfl (by kernel_rfl) (by kernel_rfl) (by kernel_rfl) (by kernel_rfl) (fun _ _ _ h => h) ?hy1 HR ?rest1
        case hy1 => first | (refine Or.inl ⟨by rfl, ?_⟩; (intro w' hSw; go_simp) <;> with_reducible rfl) | (refine Or.inr ⟨by rfl, ?_⟩; with_reducible rfl)
        try simp only [List.getElem_toArray, List.getElem_cons_zero, List.getElem_cons_succ, Act.put, List.setIfInBounds_toArray, List.set_cons_zero, List.set_cons_succ]
        refine wpAnyU_take (i := 2) (v := ?v2) rfl (by kernel_rfl) (by kernel_rfl) (by kernel_rfl) (by kernel_rfl) (fun _ _ _ h => h) ?hy2 HR ?rest2
        case hy2 => first | (refine Or.inl ⟨by rfl, ?_⟩; (intro w' hSw; go_simp) <;> with_reducible rfl) | (refine Or.inr ⟨by rfl, ?_⟩; with_reducible rfl)
        try simp only [List.getElem_toArray, List.getElem_cons_zero, List.getElem_cons_succ, Act.put, List.setIfInBounds_toArray, List.set_cons_zero, List.set_cons_succ]
        refine wpAnyU_take (i := 3) (v := ?v3) rfl (by kernel_rfl) (by kernel_rfl) (by kernel_rfl) (by kernel_rfl) (fun _ _ _ h => h) ?hy3 HR ?rest3
        case hy3 => first | (refine Or.inl ⟨by rfl, ?_⟩; (intro w' hSw; go_simp) <;> with_reducible rfl) | (refine Or.inr ⟨by rfl, ?_⟩; with_reducible rfl)
        try simp only [List.getElem_toArray, List.getElem_cons_zero, List.getElem_cons_succ, Act.put, List.setIfInBounds_toArray, List.set_cons_zero, List.set_cons_succ]
        refine wpAnyU_take (i := 4) (v := ?v4) rfl (by kernel_rfl) (by kernel_rfl) (by kernel_rfl) (by kernel_rfl) (fun _ _ _ h => h) ?hy4 HR ?rest4
        case hy4 => first | (refine Or.inl ⟨by rfl, ?_⟩; (intro w' hSw; go_simp) <;> with_reducible rfl) | (refine Or.inr ⟨by rfl, ?_⟩; with_reducible rfl)
        try simp only [List.getElem_toArray, List.getElem_cons_zero, List.getElem_cons_succ, Act.put, List.setIfInBounds_toArray, List.set_cons_zero, List.set_cons_succ]
        refine wpAnyU_take (i := 5) (v := ?v5) rfl (by kernel_rfl) (by kernel_rfl) (by kernel_rfl) (by kernel_rfl) (fun _ _ _ h => h) ?hy5 HR ?rest5
        case hy5 => first | (refine Or.inl ⟨by rfl, ?_⟩; (intro w' hSw; go_simp) <;> with_reducible rfl) | (refine Or.inr ⟨by rfl, ?_⟩; with_reducible rfl)
        try simp only [List.getElem_toArray, List.getElem_cons_zero, List.getElem_cons_succ, Act.put, List.setIfInBounds_toArray, List.set_cons_zero, List.set_cons_succ]
        refine wpAnyU_take (i := 6) (v := ?v6) rfl (by kernel_rfl) (by kernel_rfl) (by kernel_rfl) (by kernel_rfl) (fun _ _ _ h => h) ?hy6 HR ?rest6
        case hy6 => first | (refine Or.inl ⟨by rfl, ?_⟩; (intro w' hSw; go_simp) <;> with_reducible rfl) | (refine Or.inr ⟨by rfl, ?_⟩; with_reducible rfl)
        try simp only [List.getElem_toArray, List.getElem_cons_zero, List.getElem_cons_succ, Act.put, List.setIfInBounds_toArray, List.set_cons_zero, List.set_cons_succ]
        refine wpAnyU_take (i := 7) (v := ?v7) rfl (by kernel_rfl) (by kernel_rfl) (by kernel_rfl) (by kernel_rfl) (fun _ _ _ h => h) ?hy7 HR ?rest7
        case hy7 => first | (refine Or.inl ⟨by rfl, ?_⟩; (intro w' hSw; go_simp) <;> with_reducible rfl) | (refine Or.inr ⟨by rfl, ?_⟩; with_reducible rfl)
        try simp only [List.getElem_toArray, List.getElem_cons_zero, List.getElem_cons_succ, Act.put, List.setIfInBounds_toArray, List.set_cons_zero, List.set_cons_succ]
        refine wpAnyU_take (i := 8) (v := ?v8) rfl (by kernel_rfl) (by kernel_rfl) (by kernel_rfl) (by kernel_rfl) (fun _ _ _ h => h) ?hy8 HR ?rest8
        case hy8 => first | (refine Or.inl ⟨by rfl, ?_⟩; (intro w' hSw; go_simp) <;> with_reducible rfl) | (refine Or.inr ⟨by rfl, ?_⟩; with_reducible rfl)
        try simp only [List.getElem_toArray, List.getElem_cons_zero, List.getElem_cons_succ, Act.put, List.setIfInBounds_toArray, List.set_cons_zero, List.set_cons_succ]
        refine wpAnyU_take (i := 9) (v := ?v9) rfl (by kernel_rfl) (by kernel_rfl) (by kernel_rfl) (by kernel_rfl) (fun _ _ _ h => h) ?hy9 HR ?rest9
        case hy9 => first | (refine Or.inl ⟨by rfl, ?_⟩; (intro w' hSw; go_simp) <;> with_reducible rfl) | (refine Or.inr ⟨by rfl, ?_⟩; with_reducible rfl)
        try simp only [List.getElem_toArray, List.getElem_cons_zero, List.getElem_cons_succ, Act.put, List.setIfInBounds_toArray, List.set_cons_zero, List.set_cons_succ]
        refine wpAnyU_take (i := 10) (v := ?v10) rfl (by kernel_rfl) (by kernel_rfl) (by kernel_rfl) (by kernel_rfl) (fun _ _ _ h => h) ?hy10 HR ?rest10
        case hy10 => first | (refine Or.inl ⟨by rfl, ?_⟩; (intro w' hSw; go_simp) <;> with_reducible rfl) | (refine Or.inr ⟨by rfl, ?_⟩; with_reducible rfl)
        try simp only [List.getElem_toArray, List.getElem_cons_zero, List.getElem_cons_succ, Act.put, List.setIfInBounds_toArray, List.set_cons_zero, List.set_cons_succ]
        refine wpAnyU_take (i := 11) (v := ?v11) rfl (by kernel_rfl) (by kernel_rfl) (by kernel_rfl) (by kernel_rfl) (fun _ _ _ h => h) ?hy11 HR ?rest11
        case hy11 => first | (refine Or.inl ⟨by rfl, ?_⟩; (intro w' hSw; go_simp) <;> with_reducible rfl) | (refine Or.inr ⟨by rfl, ?_⟩; with_reducible rfl)
        try simp only [List.getElem_toArray, List.getElem_cons_zero, List.getElem_cons_succ, Act.put, List.setIfInBounds_toArray, List.set_cons_zero, List.set_cons_succ]
        refine wpAnyU_take (i := 12) (v := ?v12) rfl (by kernel_rfl) (by kernel_rfl) (by kernel_rfl) (by kernel_rfl) (fun _ _ _ h => h) ?hy12 HR ?rest12
        case hy12 => first | (refine Or.inl ⟨by rfl, ?_⟩; (intro w' hSw; go_simp) <;> with_reducible rfl) | (refine Or.inr ⟨by rfl, ?_⟩; with_reducible rfl)
        try simp only [List.getElem_toArray, List.getElem_cons_zero, List.getElem_cons_succ, Act.put, List.setIfInBounds_toArray, List.set_cons_zero, List.set_cons_succ]
        refine wpAnyU_take (i := 13) (v := ?v13) rfl (by kernel_rfl) (by kernel_rfl) (by kernel_rfl) (by kernel_rfl) (fun _ _ _ h => h) ?hy13 HR ?rest13
        case hy13 => first | (refine Or.inl ⟨by rfl, ?_⟩; (intro w' hSw; go_simp) <;> with_reducible rfl) | (refine Or.inr ⟨by rfl, ?_⟩; with_reducible rfl)
        try simp only [List.getElem_toArray, List.getElem_cons_zero, List.getElem_cons_succ, Act.put, List.setIfInBounds_toArray, List.set_cons_zero, List.set_cons_succ]
        refine wpAnyU_take (i := 14) (v := ?v14) rfl (by kernel_rfl) (by kernel_rfl) (by kernel_rfl) (by kernel_rfl) (fun _ _ _ h => h) ?hy14 HR ?rest14
        case hy14 => first | (refine Or.inl ⟨by rfl, ?_⟩; (intro w' hSw; go_simp) <;> with_reducible rfl) | (refine Or.inr ⟨by rfl, ?_⟩; with_reducible rfl)
        try simp only [List.getElem_toArray, List.getElem_cons_zero, List.getElem_cons_succ, Act.put, List.setIfInBounds_toArray, List.set_cons_zero, List.set_cons_succ]
        refine wpAnyU_take (i := 15) (v := ?v15) rfl (by kernel_rfl) (by kernel_rfl) (by kernel_rfl) (by kernel_rfl) (fun _ _ _ h => h) ?hy15 HR ?rest15
        case hy15 => first | (refine Or.inl ⟨by rfl, ?_⟩; (intro w' hSw; go_simp) <;> with_reducible rfl) | (refine Or.inr ⟨by rfl, ?_⟩; with_reducible rfl)
        try simp only [List.getElem_toArray, List.getElem_cons_zero, List.getElem_cons_succ, Act.put, List.setIfInBounds_toArray, List.set_cons_zero, List.set_cons_succ]
        refine wpAnyU_take (i := 16) (v := ?v16) rfl (by kernel_rfl) (by kernel_rfl) (by kernel_rfl) (by kernel_rfl) (fun _ _ _ h => h) ?hy16 HR ?rest16
        case hy16 => first | (refine Or.inl ⟨by rfl, ?_⟩; (intro w' hSw; go_simp) <;> with_reducible rfl) | (refine Or.inr ⟨by rfl, ?_⟩; with_reducible rfl)
        try simp only [List.getElem_toArray, List.getElem_cons_zero, List.getElem_cons_succ, Act.put, List.setIfInBounds_toArray, List.set_cons_zero, List.set_cons_succ]
        refine wpAnyU_take (i := 17) (v := ?v17) rfl (by kernel_rfl) (by kernel_rfl) (by kernel_rfl) (by kernel_rfl) (fun _ _ _ h => h) ?hy17 HR ?rest17
        case hy17 => first | (refine Or.inl ⟨by rfl, ?_⟩; (intro w' hSw; go_simp) <;> with_reducible rfl) | (refine Or.inr ⟨by rfl, ?_⟩; with_reducible rfl)
        try simp only [List.getElem_toArray, List.getElem_cons_zero, List.getElem_cons_succ, Act.put, List.setIfInBounds_toArray, List.set_cons_zero, List.set_cons_succ]
        refine wpAnyU_take (i := 18) (v := ?v18) rfl (by kernel_rfl) (by kernel_rfl) (by kernel_rfl) (by kernel_rfl) (fun _ _ _ h => h) ?hy18 HR ?rest18
        case hy18 => first | (refine Or.inl ⟨by rfl, ?_⟩; (intro w' hSw; go_simp) <;> with_reducible rfl) | (refine Or.inr ⟨by rfl, ?_⟩; with_reducible rfl)
        try simp only [List.getElem_toArray, List.getElem_cons_zero, List.getElem_cons_succ, Act.put, List.setIfInBounds_toArray, List.set_cons_zero, List.set_cons_succ]
        refine wpAnyU_take (i := 19) (v := ?v19) rfl (by kernel_rfl) (by kernel_rfl) (by kernel_rfl) (by kernel_rfl) (fun _ _ _ h => h) ?hy19 HR ?rest19
        case hy19 => first | (refine Or.inl ⟨by rfl, ?_⟩; (intro w' hSw; go_simp) <;> with_reducible rfl) | (refine Or.inr ⟨by rfl, ?_⟩; with_reducible rfl)
        try simp only [List.getElem_toArray, List.getElem_cons_zero, List.getElem_cons_succ, Act.put, List.setIfInBounds_toArray, List.set_cons_zero, List.set_cons_succ]
        refine wpAnyU_take (i := 20) (v := ?v20) rfl (by kernel_rfl) (by kernel_rfl) (by kernel_rfl) (by kernel_rfl) (fun _ _ _ h => h) ?hy20 HR ?rest20
        case hy20 => first | (refine Or.inl ⟨by rfl, ?_⟩; (intro w' hSw; go_simp) <;> with_reducible rfl) | (refine Or.inr ⟨by rfl, ?_⟩; with_reducible rfl)
        try simp only [List.getElem_toArray, List.getElem_cons_zero, List.getElem_cons_succ, Act.put, List.setIfInBounds_toArray, List.set_cons_zero, List.set_cons_succ]
        refine wpAnyU_take (i := 21) (v := ?v21) rfl (by kernel_rfl) (by kernel_rfl) (by kernel_rfl) (by kernel_rfl) (fun _ _ _ h => h) ?hy21 HR ?rest21
        case hy21 => first | (refine Or.inl ⟨by rfl, ?_⟩; (intro w' hSw; go_simp) <;> with_reducible rfl) | (refine Or.inr ⟨by rfl, ?_⟩; with_reducible rfl)
        try simp only [List.getElem_toArray, List.getElem_cons_zero, List.getElem_cons_succ, Act.put, List.setIfInBounds_toArray, List.set_cons_zero, List.set_cons_succ]
        refine wpAnyU_take (i := 22) (v := ?v22) rfl (by kernel_rfl) (by kernel_rfl) (by kernel_rfl) (by kernel_rfl) (fun _ _ _ h => h) ?hy22 HR ?rest22
        case hy22 => first | (refine Or.inl ⟨by rfl, ?_⟩; (intro w' hSw; go_simp) <;> with_reducible rfl) | (refine Or.inr ⟨by rfl, ?_⟩; with_reducible rfl)
        try simp only [List.getElem_toArray, List.getElem_cons_zero, List.getElem_cons_succ, Act.put, List.setIfInBounds_toArray, List.set_cons_zero, List.set_cons_succ]
        refine wpAnyU_take (i := 23) (v := ?v23) rfl (by kernel_rfl) (by kernel_rfl) (by kernel_rfl) (by kernel_rfl) (fun _ _ _ h => h) ?hy23 HR ?rest23
        case hy23 => first | (refine Or.inl ⟨by rfl, ?_⟩; (intro w' hSw; go_simp) <;> with_reducible rfl) | (refine Or.inr ⟨by rfl, ?_⟩; with_reducible rfl)
        try simp only [List.getElem_toArray, List.getElem_cons_zero, List.getElem_cons_succ, Act.put, List.setIfInBounds_toArray, List.set_cons_zero, List.set_cons_succ]
        refine wpAnyU_take (i := 24) (v := ?v24) rfl (by kernel_rfl) (by kernel_rfl) (by kernel_rfl) (by kernel_rfl) (fun _ _ _ h => h) ?hy24 HR ?rest24
        case hy24 => first | (refine Or.inl ⟨by rfl, ?_⟩; (intro w' hSw; go_simp) <;> with_reducible rfl) | (refine Or.inr ⟨by rfl, ?_⟩; with_reducible rfl)
        try simp only [List.getElem_toArray, List.getElem_cons_zero, List.getElem_cons_succ, Act.put, List.setIfInBounds_toArray, List.set_cons_zero, List.set_cons_succ]
        refine wpAnyU_take (i := 25) (v := ?v25) rfl (by kernel_rfl) (by kernel_rfl) (by kernel_rfl) (by kernel_rfl) (fun _ _ _ h => h) ?hy25 HR ?rest25
        case hy25 => first | (refine Or.inl ⟨by rfl, ?_⟩; (intro w' hSw; go_simp) <;> with_reducible rfl) | (refine Or.inr ⟨by rfl, ?_⟩; with_reducible rfl)
        try simp only [List.getElem_toArray, List.getElem_cons_zero, List.getElem_cons_succ, Act.put, List.setIfInBounds_toArray, List.set_cons_zero, List.set_cons_succ]
        refine wpAnyU_take (i := 26) (v := ?v26) rfl (by kernel_rfl) (by kernel_rfl) (by kernel_rfl) (by kernel_rfl) (fun _ _ _ h => h) ?hy26 HR ?rest26
        case hy26 => first | (refine Or.inl ⟨by rfl, ?_⟩; (intro w' hSw; go_simp) <;> with_reducible rfl) | (refine Or.inr ⟨by rfl, ?_⟩; with_reducible rfl)
        try simp only [List.getElem_toArray, List.getElem_cons_zero, List.getElem_cons_succ, Act.put, List.setIfInBounds_toArray, List.set_cons_zero, List.set_cons_succ]
        refine wpAnyU_take (i := 27) (v := ?v27) rfl (by kernel_rfl) (by kernel_rfl) (by kernel_rfl) (by kernel_rfl) (fun _ _ _ h => h) ?hy27 HR ?rest27
        case hy27 => first | (refine Or.inl ⟨by rfl, ?_⟩; (intro w' hSw; go_simp) <;> with_reducible rfl) | (refine Or.inr ⟨by rfl, ?_⟩; with_reducible rfl)
        try simp only [List.getElem_toArray, List.getElem_cons_zero, List.getElem_cons_succ, Act.put, List.setIfInBounds_toArray, List.set_cons_zero, List.set_cons_succ]
        refine wpAnyU_take (i := 28) (v := ?v28) rfl (by kernel_rfl) (by kernel_rfl) (by kernel_rfl) (by kernel_rfl) (fun _ _ _ h => h) ?hy28 HR ?rest28
        case hy28 => first | (refine Or.inl ⟨by rfl, ?_⟩; (intro w' hSw; go_simp) <;> with_reducible rfl) | (refine Or.inr ⟨by rfl, ?_⟩; with_reducible rfl)
        try simp only [List.getElem_toArray, List.getElem_cons_zero, List.getElem_cons_succ, Act.put, List.setIfInBounds_toArray, List.set_cons_zero, List.set_cons_succ]
        refine wpAnyU_take (i := 29) (v := ?v29) rfl (by kernel_rfl) (by kernel_rfl) (by kernel_rfl) (by kernel_rfl) (fun _ _ _ h => h) ?hy29 HR ?rest29
        case hy29 => first | (refine Or.inl ⟨by rfl, ?_⟩; (intro w' hSw; go_simp) <;> with_reducible rfl) | (refine Or.inr ⟨by rfl, ?_⟩; with_reducible rfl)
        try simp only [List.getElem_toArray, List.getElem_cons_zero, List.getElem_cons_succ, Act.put, List.setIfInBounds_toArray, List.set_cons_zero, List.set_cons_succ]
        refine wpAnyU_take (i := 30) (v := ?v30) rfl (by kernel_rfl) (by kernel_rfl) (by kernel_rfl) (by kernel_rfl) (fun _ _ _ h => h) ?hy30 HR ?rest30
        case hy30 => first | (refine Or.inl ⟨by rfl, ?_⟩; (intro w' hSw; go_simp) <;> with_reducible rfl) | (refine Or.inr ⟨by rfl, ?_⟩; with_reducible rfl)
        try simp only [List.getElem_toArray, List.getElem_cons_zero, List.getElem_cons_succ, Act.put, List.setIfInBounds_toArray, List.set_cons_zero, List.set_cons_succ]
        refine wpAnyU_take (i := 31) (v := ?v31) rfl (by kernel_rfl) (by kernel_rfl) (by kernel_rfl) (by kernel_rfl) (fun _ _ _ h => h) ?hy31 HR ?rest31
        case hy31 => first | (refine Or.inl ⟨by rfl, ?_⟩; (intro w' hSw; go_simp) <;> with_reducible rfl) | (refine Or.inr ⟨by rfl, ?_⟩; with_reducible rfl)
        try simp only [List.getElem_toArray, List.getElem_cons_zero, List.getElem_cons_succ, Act.put, List.setIfInBounds_toArray, List.set_cons_zero, List.set_cons_succ]
        refine wpAnyU_take (i := 32) (v := ?v32) rfl (by kernel_rfl) (by kernel_rfl) (by kernel_rfl) (by kernel_rfl) (fun _ _ _ h => h) ?hy32 HR ?rest32
        case hy32 => first | (refine Or.inl ⟨by rfl, ?_⟩; (intro w' hSw; go_simp) <;> with_reducible rfl) | (refine Or.inr ⟨by rfl, ?_⟩; with_reducible rfl)
        try simp only [List.getElem_toArray, List.getElem_cons_zero, List.getElem_cons_succ, Act.put, List.setIfInBounds_toArray, List.set_cons_zero, List.set_cons_succ]
        refine wpAnyU_take (i := 33) (v := ?v33) rfl (by kernel_rfl) (by kernel_rfl) (by kernel_rfl) (by kernel_rfl) (fun _ _ _ h => h) ?hy33 HR ?rest33
        case hy33 => first | (refine Or.inl ⟨by rfl, ?_⟩; (intro w' hSw; go_simp) <;> with_reducible rfl) | (refine Or.inr ⟨by rfl, ?_⟩; with_reducible rfl)
        try simp only [List.getElem_toArray, List.getElem_cons_zero, List.getElem_cons_succ, Act.put, List.setIfInBounds_toArray, List.set_cons_zero, List.set_cons_succ]
        refine wpAnyU_take (i := 34) (v := ?v34) rfl (by kernel_rfl) (by kernel_rfl) (by kernel_rfl) (by kernel_rfl) (fun _ _ _ h => h) ?hy34 HR ?rest34
        case hy34 => first | (refine Or.inl ⟨by rfl, ?_⟩; (intro w' hSw; go_simp) <;> with_reducible rfl) | (refine Or.inr ⟨by rfl, ?_⟩; with_reducible rfl)
        try simp only [List.getElem_toArray, List.getElem_cons_zero, List.getElem_cons_succ, Act.put, List.setIfInBounds_toArray, List.set_cons_zero, List.set_cons_succ]
        refine wpAnyU_take (i := 35) (v := ?v35) rfl (by kernel_rfl) (by kernel_rfl) (by kernel_rfl) (by kernel_rfl) (fun _ _ _ h => h) ?hy35 HR ?rest35
        case hy35 => first | (refine Or.inl ⟨by rfl, ?_⟩; (intro w' hSw; go_simp) <;> with_reducible rfl) | (refine Or.inr ⟨by rfl, ?_⟩; with_reducible rfl)
        try simp only [List.getElem_toArray, List.getElem_cons_zero, List.getElem_cons_succ, Act.put, List.setIfInBounds_toArray, List.set_cons_zero, List.set_cons_succ]
        refine wpAnyU_take (i := 36) (v := ?v36) rfl (by kernel_rfl) (by kernel_rfl) (by kernel_rfl) (by kernel_rfl) (fun _ _ _ h => h) ?hy36 HR ?rest36
        case hy36 => first | (refine Or.inl ⟨by rfl, ?_⟩; (intro w' hSw; go_simp) <;> with_reducible rfl) | (refine Or.inr ⟨by rfl, ?_⟩; with_reducible rfl)
        try simp only [List.getElem_toArray, List.getElem_cons_zero, List.getElem_cons_succ, Act.put, List.setIfInBounds_toArray, List.set_cons_zero, List.set_cons_succ]
        refine wpAnyU_take (i := 37) (v := ?v37) rfl (by kernel_rfl) (by kernel_rfl) (by kernel_rfl) (by kernel_rfl) (fun _ _ _ h => h) ?hy37 HR ?rest37
        case hy37 => first | (refine Or.inl ⟨by rfl, ?_⟩; (intro w' hSw; go_simp) <;> with_reducible rfl) | (refine Or.inr ⟨by rfl, ?_⟩; with_reducible rfl)
        try simp only [List.getElem_toArray, List.getElem_cons_zero, List.getElem_cons_succ, Act.put, List.setIfInBounds_toArray, List.set_cons_zero, List.set_cons_succ]
        refine wpAnyU_take (i := 38) (v := ?v38) rfl (by kernel_rfl) (by kernel_rfl) (by kernel_rfl) (by kernel_rfl) (fun _ _ _ h => h) ?hy38 HR ?rest38
        case hy38 => first | (refine Or.inl ⟨by rfl, ?_⟩; (intro w' hSw; go_simp) <;> with_reducible rfl) | (refine Or.inr ⟨by rfl, ?_⟩; with_reducible rfl)
        try simp only [List.getElem_toArray, List.getElem_cons_zero, List.getElem_cons_succ, Act.put, List.setIfInBounds_toArray, List.set_cons_zero, List.set_cons_succ]
        refine wpAnyU_take (i := 39) (v := ?v39) rfl (by kernel_rfl) (by kernel_rfl) (by kernel_rfl) (by kernel_rfl) (fun _ _ _ h => h) ?hy39 HR ?rest39
        case hy39 => first | (refine Or.inl ⟨by rfl, ?_⟩; (intro w' hSw; go_simp) <;> with_reducible rfl) | (refine Or.inr ⟨by rfl, ?_⟩; with_reducible rfl)
        try simp only [List.getElem_toArray, List.getElem_cons_zero, List.getElem_cons_succ, Act.put, List.setIfInBounds_toArray, List.set_cons_zero, List.set_cons_succ]
        refine wpAnyU_take (i := 40) (v := ?v40) rfl (by kernel_rfl) (by kernel_rfl) (by kernel_rfl) (by kernel_rfl) (fun _ _ _ h => h) ?hy40 HR ?rest40
        case hy40 => first | (refine Or.inl ⟨by rfl, ?_⟩; (intro w' hSw; go_simp) <;> with_reducible rfl) | (refine Or.inr ⟨by rfl, ?_⟩; with_reducible rfl)
        try simp only [List.getElem_toArray, List.getElem_cons_zero, List.getElem_cons_succ, Act.put, List.setIfInBounds_toArray, List.set_cons_zero, List.set_cons_succ]
        refine wpAnyU_take (i := 41) (v := ?v41) rfl (by kernel_rfl) (by kernel_rfl) (by kernel_rfl) (by kernel_rfl) (fun _ _ _ h => h) ?hy41 HR ?rest41
        case hy41 => first | (refine Or.inl ⟨by rfl, ?_⟩; (intro w' hSw; go_simp) <;> with_reducible rfl) | (refine Or.inr ⟨by rfl, ?_⟩; with_reducible rfl)
        try simp only [List.getElem_toArray, List.getElem_cons_zero, List.getElem_cons_succ, Act.put, List.setIfInBounds_toArray, List.set_cons_zero, List.set_cons_succ]
        refine wpAnyU_take (i := 42) (v := ?v42) rfl (by kernel_rfl) (by kernel_rfl) (by kernel_rfl) (by kernel_rfl) (fun _ _ _ h => h) ?hy42 HR ?rest42
        case hy42 => first | (refine Or.inl ⟨by rfl, ?_⟩; (intro w' hSw; go_simp) <;> with_reducible rfl) | (refine Or.inr ⟨by rfl, ?_⟩; with_reducible rfl)
        try simp only [List.getElem_toArray, List.getElem_cons_zero, List.getElem_cons_succ, Act.put, List.setIfInBounds_toArray, List.set_cons_zero, List.set_cons_succ]
        refine wpAnyU_take (i := 44) (v := ?v44) rfl (by kernel_rfl) (by kernel_rfl) (by kernel_rfl) (by kernel_rfl) (fun _ _ _ h => h) ?hy44 HR ?rest44
        case hy44 => first | (refine Or.inl ⟨by rfl, ?_⟩; (intro w' hSw; go_simp) <;> with_reducible rfl) | (refine Or.inr ⟨by rfl, ?_⟩; with_reducible rfl)
        try simp only [List.getElem_toArray, List.getElem_cons_zero, List.getElem_cons_succ, Act.put, List.setIfInBounds_toArray, List.set_cons_zero, List.set_cons_succ]
        refine wpAnyT_one (i := 43) (by kernel_rfl) rfl (fun K hK => ?_)
        go_simp
        go_at_call 12
        refine (Left_any cap A3 nn c3 l' lf _ (HS3.out.mono BlkR.mono HR) hnl HL3).mono ?_
        rintro e w51 ⟨rfl, hb1⟩
        have HR43 : Bel W0 w51 := HR.trans hb1
        refine hK.out _ _ (fun _ => HR43) ?_
        clear hK K
        try simp only [List.getElem_toArray, List.getElem_cons_zero, List.getElem_cons_succ, Act.put, List.setIfInBounds_toArray, List.set_cons_zero, List.set_cons_succ]
        refine wpAnyT_one (i := 45) (by kernel_rfl) rfl (fun K hK => ?_)
        go_simp
        go_at_call 12
        refine (Left_any cap A nn c l lf _ (HS.out.mono BlkR.mono HR43) hn HL).mono ?_
        rintro e w52 ⟨rfl, hb2⟩
        have HR45 : Bel W0 w52 := HR43.trans hb2
        refine hK.out _ _ (fun _ => HR45) ?_
        clear hK K
        try simp only [List.getElem_toArray, List.getElem_cons_zero, List.getElem_cons_succ, Act.put, List.setIfInBounds_toArray, List.set_cons_zero, List.set_cons_succ]
        refine wpAnyU_take (i := 46) (v := ?v46) rfl (by kernel_rfl) (by kernel_rfl) (by kernel_rfl) (by kernel_rfl) (fun _ _ _ h => h) ?hy46 HR45 ?rest46
        case hy46 => first | (refine Or.inl ⟨by rfl, ?_⟩; (intro w' hSw; go_simp) <;> with_reducible rfl) | (refine Or.inr ⟨by rfl, ?_⟩; with_reducible rfl)
        try simp only [List.getElem_toArray, List.getElem_cons_zero, List.getElem_cons_succ, Act.put, List.setIfInBounds_toArray, List.set_cons_zero, List.set_cons_succ]
        refine wpAnyU_take (i := 47) (v := ?v47) rfl (by kernel_rfl) (by kernel_rfl) (by kernel_rfl) (by kernel_rfl) (fun _ _ _ h => h) ?hy47 HR45 ?rest47
        case hy47 => first | (refine Or.inl ⟨by rfl, ?_⟩; (intro w' hSw; go_simp) <;> with_reducible rfl) | (refine Or.inr ⟨by rfl, ?_⟩; with_reducible rfl)
        try simp only [List.getElem_toArray, List.getElem_cons_zero, List.getElem_cons_succ, Act.put, List.setIfInBounds_toArray, List.set_cons_zero, List.set_cons_succ]
        refine wpAnyU_take (i := 48) (v := ?v48) rfl (by kernel_rfl) (by kernel_rfl) (by kernel_rfl) (by kernel_rfl) (fun _ _ _ h => h) ?hy48 HR45 ?rest48
        case hy48 => first | (refine Or.inl ⟨by rfl, ?_⟩; (intro w' hSw; go_simp) <;> with_reducible rfl) | (refine Or.inr ⟨by rfl, ?_⟩; with_reducible rfl)
        try simp only [List.getElem_toArray, List.getElem_cons_zero, List.getElem_cons_succ, Act.put, List.setIfInBounds_toArray, List.set_cons_zero, List.set_cons_succ]
        refine wpAnyT_done (by kernel_rfl) ?_ _
        refine NoPanic.normal ?_
        go_wp2
        go_ret
        exact ⟨by first | (simp; done) | (simp; omega), HW.trans HR45⟩
    · obtain ⟨e', HBAD⟩ : ∃ e', Hid (fetchM ⟨cap, l⟩ place = (0, 0, false) ∧ Hid (patchM ⟨cap, l⟩ place v = (⟨0, []⟩, e')) ∧ e' ≠ 0) := by
        by_cases hm : mayM ⟨cap, l⟩ = true
        · cases hb : blkOf l place with
          | none => exact ⟨3, Lib.hid ⟨fetch_none_iff (mayM_iff.1 hm) hb, Lib.hid (by unfold patchM; rw [if_pos hm]; simp only [hb]), by decide⟩⟩
          | some i => exact absurd ⟨hm, i, hb⟩ hgood
        · exact ⟨1, Lib.hid ⟨by unfold fetchM; rw [if_neg hm], Lib.hid (by unfold patchM; rw [if_neg hm]), by decide⟩⟩
      have t1 : (e' != 0) = true := by simpa using HBAD.out.2.2
      have HBAD := Lib.hid (And.intro HBAD.out.1 HBAD.out.2.1)
      clear hgood
      have HF : Hid (fetchM ⟨cap, l⟩ place = (0, 0, false)) := Lib.hid HBAD.out.1
      go_wp2_with fail
      refine (Fetch_any cap A nn c l place 0 0 false _ HS.out hn HF).mono ?_
      rintro e v10 ⟨rfl, hb⟩
      have HBW := Lib.hid (HBW.out.trans hb)
      have q0 := hb.cell q0
      have q1 := hb.cell q1
      have HBM := Lib.hid (HBM.out.bel hb)
      have HS := Lib.hid (HS.out.mono BlkR.mono hb)
      clear hb
      go_wp2_with fail
      refine (Patch_any cap A nn c l place v _ HS.out hn (Lib.hid wf2) 0 [] 0 e' HBAD.out.2 (Lib.hid rfl)).mono ?_
      rintro e v11 ⟨A3, c3, rfl, s3, hb⟩
      have HBW := Lib.hid (HBW.out.trans hb)
      have q0 := hb.cell q0
      have q1 := hb.cell q1
      have HBM := Lib.hid (HBM.out.bel hb)
      have HS := Lib.hid (HS.out.mono BlkR.mono hb)
      clear hb
      have bp := Blk.new v11 26 #[.int .i64 0, .slice A3 0 c3]
      have hb := (Bel.refl v11).alloc (.cells #[.int .i64 0, .slice A3 0 c3] 26)
      have HBW := Lib.hid (HBW.out.trans hb)
      have q0 := hb.cell q0
      have q1 := hb.cell q1
      have HBM := Lib.hid (HBM.out.bel hb)
      have HS := Lib.hid (HS.out.mono BlkR.mono hb)
      have p0 := bp.cell 0 (v := .int .i64 0) rfl
      have p1 := bp.cell 1 (v := .slice A3 0 c3) rfl
      have Bp := Lib.hid bp
      clear hb bp
      go_wp2_with fail
      generalize v11.alloc (.cells #[.int .i64 0, .slice A3 0 c3] 26) = V11 at *
      generalize v11.heap.size = gp at *
      go_wp2_with fail
      go_ret
      exact ⟨by first | rfl | simp, HBW.out⟩
end Go.Proofs.Ytegdnmlpoglfeaa
