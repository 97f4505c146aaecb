/- The walk of ArenaTells. -/
import Derived.Test.YtegdnmlpoglfeaaRf8
set_option linter.unusedVariables false
set_option linter.unusedSimpArgs false
namespace Go.Proofs.Ytegdnmlpoglfeaa
open Go.RowKit

set_option maxRecDepth 100000 in
set_option maxHeartbeats 16000000 in
theorem ArenaTells_walk (C0 : Array Value) (m : MemD) (id pl : Int) (B : Option Addr) (c2 : Nat) (ws : List Int) (wd : Int) (w : World) (r0 : MemR w C0.toList m) (wf1 : (Lit.int .i64 id).wf = true) (wf2 : (Lit.int .i64 pl).wf = true) (hw : Sl (IntR .u64) 1 w B c2 ws) (wf3 : (Lit.int .u64 wd).wf = true) :
    Calls Try.prog 8 #[.agg C0, .int .i64 id, .int .i64 pl, .slice B ws.length c2, .int .u64 wd] w fun e w' => e = .returned (.bool true) ∧ Bel w w' := by
  obtain ⟨N, hN⟩ : ∃ N, Hid (ws.length = N) := ⟨_, Lib.hid rfl⟩
  rw [hN.out]
  obtain ⟨cap, l⟩ := m
  obtain ⟨A, c, hcs, hs, hwf0⟩ := r0
  obtain rfl : C0 = #[.int .i64 cap, .slice A l.length c] := Array.toList_inj.1 hcs
  obtain ⟨nn, hn⟩ : ∃ nn, Hid (l.length = nn) := ⟨_, Lib.hid rfl⟩
  rw [hn.out]
  have bM := Blk.new w 26 #[.int .i64 cap, .slice A nn c]
  have q0 := bM.cell 0 (v := .int .i64 cap) rfl
  have q1 := bM.cell 1 (v := .slice A nn c) rfl
  have HBM := Lib.hid bM
  have HBW := Lib.hid ((Bel.refl w).alloc (.cells #[.int .i64 cap, .slice A nn c] 26))
  have HS := Lib.hid (hs.mono BlkR.mono HBW.out)
  have HW := Lib.hid (hw.mono (IntR.mono _) HBW.out)
  obtain ⟨fb, hfb⟩ : ∃ fb, Hid (fewM ⟨cap, l⟩ = fb) := ⟨_, Lib.hid rfl⟩
  clear hs bM hcs hw
  go_enter Try.func8, Try.ntmps8
  go_wp2_with fail
  refine (awake13 _).mono ?_
  rintro e w1 ⟨rfl, hb⟩
  have HBW := Lib.hid (HBW.out.trans hb)
  have q0 := hb.cell q0
  have q1 := hb.cell q1
  have HBM := Lib.hid (HBM.out.bel hb)
  have HS := Lib.hid (HS.out.mono BlkR.mono hb)
  have HW := Lib.hid (HW.out.mono (IntR.mono _) hb)
  clear hb
  obtain ⟨g, hg⟩ : ∃ g, w.heap.size = g := ⟨_, rfl⟩
  have hg0 : w.heap.size ≤ g := by omega
  rw [hg] at q0 q1 HBM ⊢
  clear hg
  go_wp2_with fail
  refine (fewM_any cap A nn c l fb _ HS.out hn hfb).mono ?_
  rintro e w2 ⟨rfl, hb⟩
  have HBW := Lib.hid (HBW.out.trans hb)
  have q0 := hb.cell q0
  have q1 := hb.cell q1
  have HBM := Lib.hid (HBM.out.bel hb)
  have HS := Lib.hid (HS.out.mono BlkR.mono hb)
  have HW := Lib.hid (HW.out.mono (IntR.mono _) hb)
  clear hb
  cases fb
  · go_wp2_with fail
    go_ret
    exact ⟨by first | rfl | simp, HBW.out⟩
  · by_cases h1 : (1100 : Int) < N
    · go_wp2_with fail
      go_ret
      exact ⟨by first | rfl | simp, HBW.out⟩
    · have h1' : ¬ (1100 : Int) < N := h1
      have hN4 : N ≤ 4096 := by omega
      have hNw : -9223372036854775808 ≤ (N : Int) ∧ (N : Int) ≤ 9223372036854775807 := by omega
      have hlen : Hid (∀ i, i < l.length → (l[i]!).w.length ≤ 4000) := Lib.hid (fun i hi => by
        have h := hfb.out
        unfold fewM at h
        rw [Bool.and_eq_true, List.all_eq_true] at h
        have := of_decide_eq_true (h.2 _ (List.getElem_mem hi))
        rw [getElem!_pos l i hi]
        omega)
      have hn4 : nn ≤ 4000 := by
        have h := hfb.out
        unfold fewM at h
        rw [Bool.and_eq_true] at h
        have := of_decide_eq_true h.1
        simp only at this
        rw [hn.out] at this
        omega
      have HP : Hid (pl ≤ 9223372036854775807) := Lib.hid (by
        simp [Lit.wf, IntKind.min, IntKind.max, IntKind.bits, IntKind.signed] at wf2
        omega)
      obtain ⟨⟨⟨capA, lA⟩, eA⟩, hput⟩ : ∃ p, Hid (putM ⟨cap, l⟩ ⟨id, pl, ws⟩ = p) := ⟨_, Lib.hid rfl⟩
      obtain ⟨nA, hnA⟩ : ∃ n, Hid (lA.length = n) := ⟨_, Lib.hid rfl⟩
      obtain ⟨⟨⟨capB, lB⟩, eB⟩, hdrop⟩ : ∃ p, Hid (dropM ⟨cap, l⟩ id = p) := ⟨_, Lib.hid rfl⟩
      obtain ⟨nB, hnB⟩ : ∃ n, Hid (lB.length = n) := ⟨_, Lib.hid rfl⟩
      obtain ⟨⟨⟨capC, lC⟩, eC⟩, hpat⟩ : ∃ p, Hid (patchM ⟨cap, l⟩ pl wd = p) := ⟨_, Lib.hid rfl⟩
      obtain ⟨nC, hnC⟩ : ∃ n, Hid (lC.length = n) := ⟨_, Lib.hid rfl⟩
      obtain ⟨⟨x1, x2, x3⟩, HF⟩ : ∃ p, Hid (fetchM ⟨cap, l⟩ pl = p) := ⟨_, Lib.hid rfl⟩
      obtain ⟨⟨fa, fo⟩, HFD⟩ : ∃ p, Hid (findM ⟨cap, l⟩ N = p) := ⟨_, Lib.hid rfl⟩
      obtain ⟨lf, HL⟩ : ∃ x, Hid (leftM ⟨cap, l⟩ = x) := ⟨_, Lib.hid rfl⟩
      obtain ⟨mb, hmb⟩ : ∃ x, Hid (mayM ⟨cap, l⟩ = x) := ⟨_, Lib.hid rfl⟩
      go_wp2_with fail
      refine (own13_any cap A nn c l _ HS.out hn hn4 hlen).mono ?_
      rintro e v10 ⟨zs0, vo, rfl, hzl, hrz, hb⟩
      have HBW := Lib.hid (HBW.out.trans hb)
      have q0 := hb.cell q0
      have q1 := hb.cell q1
      have HBM := Lib.hid (HBM.out.bel hb)
      have HS := Lib.hid (HS.out.mono BlkR.mono hb)
      have HW := Lib.hid (HW.out.mono (IntR.mono _) hb)
      obtain ⟨A0, c0, eo, so⟩ := hrz.slS (fun z hz => by
        have hm := List.mem_map_of_mem (f := Prod.fst) hz
        rw [hzl] at hm
        exact sl_bwf HS.out _ hm)
      subst eo
      rw [hzl] at so
      have hz0 : zs0.length = nn := by rw [← hn.out, ← hzl, List.length_map]
      rw [hz0] at *
      have HSO := Lib.hid so.sl
      clear so hrz
      clear hb
      have bo := Blk.new v10 26 #[.int .i64 cap, .slice A0 nn c0]
      have hb := (Bel.refl v10).alloc (.cells #[.int .i64 cap, .slice A0 nn c0] 26)
      have HBW := Lib.hid (HBW.out.trans hb)
      have q0 := hb.cell q0
      have q1 := hb.cell q1
      have HBM := Lib.hid (HBM.out.bel hb)
      have HS := Lib.hid (HS.out.mono BlkR.mono hb)
      have HW := Lib.hid (HW.out.mono (IntR.mono _) hb)
      have HSO := Lib.hid (HSO.out.mono BlkR.mono hb)
      have o0 := bo.cell 0 (v := .int .i64 cap) rfl
      have o1 := bo.cell 1 (v := .slice A0 nn c0) rfl
      have Bo := Lib.hid bo
      clear hb bo
      go_wp2_with fail
      generalize v10.alloc (.cells #[.int .i64 cap, .slice A0 nn c0] 26) = V10 at *
      generalize v10.heap.size = go at *
      go_wp2_with fail
      refine (Put_any cap A nn c l id pl B N c2 ws _ HS.out hn HW.out hN (Lib.hid wf1) (Lib.hid wf2) capA lA nA eA hput hnA).mono ?_
      rintro e v11 ⟨A1p, c1p, rfl, s1, hb⟩
      have HBW := Lib.hid (HBW.out.trans hb)
      have q0 := hb.cell q0
      have q1 := hb.cell q1
      have HBM := Lib.hid (HBM.out.bel hb)
      have HS := Lib.hid (HS.out.mono BlkR.mono hb)
      have HW := Lib.hid (HW.out.mono (IntR.mono _) hb)
      have HSO := Lib.hid (HSO.out.mono BlkR.mono hb)
      have o0 := hb.cell o0
      have o1 := hb.cell o1
      have Bo := Lib.hid (Bo.out.bel hb)
      have HS1p := Lib.hid s1.sl
      clear s1
      clear hb
      have bpa := Blk.new v11 26 #[.int .i64 capA, .slice A1p nA c1p]
      have hb := (Bel.refl v11).alloc (.cells #[.int .i64 capA, .slice A1p nA c1p] 26)
      have HBW := Lib.hid (HBW.out.trans hb)
      have q0 := hb.cell q0
      have q1 := hb.cell q1
      have HBM := Lib.hid (HBM.out.bel hb)
      have HS := Lib.hid (HS.out.mono BlkR.mono hb)
      have HW := Lib.hid (HW.out.mono (IntR.mono _) hb)
      have HSO := Lib.hid (HSO.out.mono BlkR.mono hb)
      have o0 := hb.cell o0
      have o1 := hb.cell o1
      have Bo := Lib.hid (Bo.out.bel hb)
      have HS1p := Lib.hid (HS1p.out.mono BlkR.mono hb)
      have pa0 := bpa.cell 0 (v := .int .i64 capA) rfl
      have pa1 := bpa.cell 1 (v := .slice A1p nA c1p) rfl
      have Bpa := Lib.hid bpa
      clear hb bpa
      go_wp2_with fail
      generalize v11.alloc (.cells #[.int .i64 capA, .slice A1p nA c1p] 26) = V11 at *
      generalize v11.heap.size = gpa at *
      go_wp2_with fail
      refine (put13_any cap A nn c l id pl B N c2 ws _ HS.out hn hlen HW.out hN hN4 (Lib.hid wf1) (Lib.hid wf2) capA lA nA eA hput hnA).mono ?_
      rintro e v12 ⟨A2p, c2p, rfl, s2, hb⟩
      have HBW := Lib.hid (HBW.out.trans hb)
      have q0 := hb.cell q0
      have q1 := hb.cell q1
      have HBM := Lib.hid (HBM.out.bel hb)
      have HS := Lib.hid (HS.out.mono BlkR.mono hb)
      have HW := Lib.hid (HW.out.mono (IntR.mono _) hb)
      have HSO := Lib.hid (HSO.out.mono BlkR.mono hb)
      have o0 := hb.cell o0
      have o1 := hb.cell o1
      have Bo := Lib.hid (Bo.out.bel hb)
      have HS1p := Lib.hid (HS1p.out.mono BlkR.mono hb)
      have pa0 := hb.cell pa0
      have pa1 := hb.cell pa1
      have Bpa := Lib.hid (Bpa.out.bel hb)
      have HS2p := Lib.hid s2.sl
      clear s2
      clear hb
      have bpb := Blk.new v12 26 #[.int .i64 capA, .slice A2p nA c2p]
      have hb := (Bel.refl v12).alloc (.cells #[.int .i64 capA, .slice A2p nA c2p] 26)
      have HBW := Lib.hid (HBW.out.trans hb)
      have q0 := hb.cell q0
      have q1 := hb.cell q1
      have HBM := Lib.hid (HBM.out.bel hb)
      have HS := Lib.hid (HS.out.mono BlkR.mono hb)
      have HW := Lib.hid (HW.out.mono (IntR.mono _) hb)
      have HSO := Lib.hid (HSO.out.mono BlkR.mono hb)
      have o0 := hb.cell o0
      have o1 := hb.cell o1
      have Bo := Lib.hid (Bo.out.bel hb)
      have HS1p := Lib.hid (HS1p.out.mono BlkR.mono hb)
      have pa0 := hb.cell pa0
      have pa1 := hb.cell pa1
      have Bpa := Lib.hid (Bpa.out.bel hb)
      have HS2p := Lib.hid (HS2p.out.mono BlkR.mono hb)
      have pb0 := bpb.cell 0 (v := .int .i64 capA) rfl
      have pb1 := bpb.cell 1 (v := .slice A2p nA c2p) rfl
      have Bpb := Lib.hid bpb
      clear hb bpb
      go_wp2_with fail
      generalize v12.alloc (.cells #[.int .i64 capA, .slice A2p nA c2p] 26) = V12 at *
      generalize v12.heap.size = gpb at *
      go_wp2_with fail
      refine (refSame_any capA capA A1p A2p nA nA c1p c2p lA lA true _ HS1p.out HS2p.out hnA hnA (Lib.hid (decide_eq_true rfl))).mono ?_
      rintro e v13 ⟨rfl, hb⟩
      have HBW := Lib.hid (HBW.out.trans hb)
      have q0 := hb.cell q0
      have q1 := hb.cell q1
      have HBM := Lib.hid (HBM.out.bel hb)
      have HS := Lib.hid (HS.out.mono BlkR.mono hb)
      have HW := Lib.hid (HW.out.mono (IntR.mono _) hb)
      have HSO := Lib.hid (HSO.out.mono BlkR.mono hb)
      have o0 := hb.cell o0
      have o1 := hb.cell o1
      have Bo := Lib.hid (Bo.out.bel hb)
      have HS1p := Lib.hid (HS1p.out.mono BlkR.mono hb)
      have pa0 := hb.cell pa0
      have pa1 := hb.cell pa1
      have Bpa := Lib.hid (Bpa.out.bel hb)
      have HS2p := Lib.hid (HS2p.out.mono BlkR.mono hb)
      have pb0 := hb.cell pb0
      have pb1 := hb.cell pb1
      have Bpb := Lib.hid (Bpb.out.bel hb)
      clear hb
      have tep : (eA == eA) = true := by simp
      go_wp2_with fail
      clear pa0 pa1 Bpa
      clear pb0 pb1 Bpb
      clear HS1p HS2p tep
      go_wp2_with fail
      refine (Drop_any cap A nn c l id _ HS.out hn capB lB nB eB hdrop hnB).mono ?_
      rintro e v14 ⟨A1d, c1d, rfl, s1, hb⟩
      have HBW := Lib.hid (HBW.out.trans hb)
      have q0 := hb.cell q0
      have q1 := hb.cell q1
      have HBM := Lib.hid (HBM.out.bel hb)
      have HS := Lib.hid (HS.out.mono BlkR.mono hb)
      have HW := Lib.hid (HW.out.mono (IntR.mono _) hb)
      have HSO := Lib.hid (HSO.out.mono BlkR.mono hb)
      have o0 := hb.cell o0
      have o1 := hb.cell o1
      have Bo := Lib.hid (Bo.out.bel hb)
      have HS1d := Lib.hid s1.sl
      clear s1
      clear hb
      have bda := Blk.new v14 26 #[.int .i64 capB, .slice A1d nB c1d]
      have hb := (Bel.refl v14).alloc (.cells #[.int .i64 capB, .slice A1d nB c1d] 26)
      have HBW := Lib.hid (HBW.out.trans hb)
      have q0 := hb.cell q0
      have q1 := hb.cell q1
      have HBM := Lib.hid (HBM.out.bel hb)
      have HS := Lib.hid (HS.out.mono BlkR.mono hb)
      have HW := Lib.hid (HW.out.mono (IntR.mono _) hb)
      have HSO := Lib.hid (HSO.out.mono BlkR.mono hb)
      have o0 := hb.cell o0
      have o1 := hb.cell o1
      have Bo := Lib.hid (Bo.out.bel hb)
      have HS1d := Lib.hid (HS1d.out.mono BlkR.mono hb)
      have da0 := bda.cell 0 (v := .int .i64 capB) rfl
      have da1 := bda.cell 1 (v := .slice A1d nB c1d) rfl
      have Bda := Lib.hid bda
      clear hb bda
      go_wp2_with fail
      generalize v14.alloc (.cells #[.int .i64 capB, .slice A1d nB c1d] 26) = V14 at *
      generalize v14.heap.size = gda at *
      go_wp2_with fail
      refine (drop13_any cap A nn c l id _ HS.out hn hlen capB lB nB eB hdrop hnB).mono ?_
      rintro e v15 ⟨A2d, c2d, rfl, s2, hb⟩
      have HBW := Lib.hid (HBW.out.trans hb)
      have q0 := hb.cell q0
      have q1 := hb.cell q1
      have HBM := Lib.hid (HBM.out.bel hb)
      have HS := Lib.hid (HS.out.mono BlkR.mono hb)
      have HW := Lib.hid (HW.out.mono (IntR.mono _) hb)
      have HSO := Lib.hid (HSO.out.mono BlkR.mono hb)
      have o0 := hb.cell o0
      have o1 := hb.cell o1
      have Bo := Lib.hid (Bo.out.bel hb)
      have HS1d := Lib.hid (HS1d.out.mono BlkR.mono hb)
      have da0 := hb.cell da0
      have da1 := hb.cell da1
      have Bda := Lib.hid (Bda.out.bel hb)
      have HS2d := Lib.hid s2.sl
      clear s2
      clear hb
      have bdb := Blk.new v15 26 #[.int .i64 capB, .slice A2d nB c2d]
      have hb := (Bel.refl v15).alloc (.cells #[.int .i64 capB, .slice A2d nB c2d] 26)
      have HBW := Lib.hid (HBW.out.trans hb)
      have q0 := hb.cell q0
      have q1 := hb.cell q1
      have HBM := Lib.hid (HBM.out.bel hb)
      have HS := Lib.hid (HS.out.mono BlkR.mono hb)
      have HW := Lib.hid (HW.out.mono (IntR.mono _) hb)
      have HSO := Lib.hid (HSO.out.mono BlkR.mono hb)
      have o0 := hb.cell o0
      have o1 := hb.cell o1
      have Bo := Lib.hid (Bo.out.bel hb)
      have HS1d := Lib.hid (HS1d.out.mono BlkR.mono hb)
      have da0 := hb.cell da0
      have da1 := hb.cell da1
      have Bda := Lib.hid (Bda.out.bel hb)
      have HS2d := Lib.hid (HS2d.out.mono BlkR.mono hb)
      have db0 := bdb.cell 0 (v := .int .i64 capB) rfl
      have db1 := bdb.cell 1 (v := .slice A2d nB c2d) rfl
      have Bdb := Lib.hid bdb
      clear hb bdb
      go_wp2_with fail
      generalize v15.alloc (.cells #[.int .i64 capB, .slice A2d nB c2d] 26) = V15 at *
      generalize v15.heap.size = gdb at *
      go_wp2_with fail
      refine (refSame_any capB capB A1d A2d nB nB c1d c2d lB lB true _ HS1d.out HS2d.out hnB hnB (Lib.hid (decide_eq_true rfl))).mono ?_
      rintro e v16 ⟨rfl, hb⟩
      have HBW := Lib.hid (HBW.out.trans hb)
      have q0 := hb.cell q0
      have q1 := hb.cell q1
      have HBM := Lib.hid (HBM.out.bel hb)
      have HS := Lib.hid (HS.out.mono BlkR.mono hb)
      have HW := Lib.hid (HW.out.mono (IntR.mono _) hb)
      have HSO := Lib.hid (HSO.out.mono BlkR.mono hb)
      have o0 := hb.cell o0
      have o1 := hb.cell o1
      have Bo := Lib.hid (Bo.out.bel hb)
      have HS1d := Lib.hid (HS1d.out.mono BlkR.mono hb)
      have da0 := hb.cell da0
      have da1 := hb.cell da1
      have Bda := Lib.hid (Bda.out.bel hb)
      have HS2d := Lib.hid (HS2d.out.mono BlkR.mono hb)
      have db0 := hb.cell db0
      have db1 := hb.cell db1
      have Bdb := Lib.hid (Bdb.out.bel hb)
      clear hb
      have ted : (eB == eB) = true := by simp
      go_wp2_with fail
      clear da0 da1 Bda
      clear db0 db1 Bdb
      clear HS1d HS2d ted
      go_wp2_with fail
      refine (Fetch_any cap A nn c l pl x1 x2 x3 _ HS.out hn HF).mono ?_
      rintro e v17 ⟨rfl, hb⟩
      have HBW := Lib.hid (HBW.out.trans hb)
      have q0 := hb.cell q0
      have q1 := hb.cell q1
      have HBM := Lib.hid (HBM.out.bel hb)
      have HS := Lib.hid (HS.out.mono BlkR.mono hb)
      have HW := Lib.hid (HW.out.mono (IntR.mono _) hb)
      have HSO := Lib.hid (HSO.out.mono BlkR.mono hb)
      have o0 := hb.cell o0
      have o1 := hb.cell o1
      have Bo := Lib.hid (Bo.out.bel hb)
      clear hb
      go_wp2_with fail
      refine (fetch13_any cap A nn c l pl x1 x2 x3 _ HS.out hn hlen HP HF).mono ?_
      rintro e v18 ⟨rfl, hb⟩
      have HBW := Lib.hid (HBW.out.trans hb)
      have q0 := hb.cell q0
      have q1 := hb.cell q1
      have HBM := Lib.hid (HBM.out.bel hb)
      have HS := Lib.hid (HS.out.mono BlkR.mono hb)
      have HW := Lib.hid (HW.out.mono (IntR.mono _) hb)
      have HSO := Lib.hid (HSO.out.mono BlkR.mono hb)
      have o0 := hb.cell o0
      have o1 := hb.cell o1
      have Bo := Lib.hid (Bo.out.bel hb)
      clear hb
      have tx1 : (x1 == x1) = true := by simp
      have tx2 : (x2 == x2) = true := by simp
      have tx3 : (x3 == x3) = true := by simp
      go_wp2_with fail
      clear tx1 tx2 tx3
      go_wp2_with fail
      refine (Patch_any cap A nn c l pl wd _ HS.out hn (Lib.hid wf3) capC lC nC eC hpat hnC).mono ?_
      rintro e v19 ⟨A1t, c1t, rfl, s1, hb⟩
      have HBW := Lib.hid (HBW.out.trans hb)
      have q0 := hb.cell q0
      have q1 := hb.cell q1
      have HBM := Lib.hid (HBM.out.bel hb)
      have HS := Lib.hid (HS.out.mono BlkR.mono hb)
      have HW := Lib.hid (HW.out.mono (IntR.mono _) hb)
      have HSO := Lib.hid (HSO.out.mono BlkR.mono hb)
      have o0 := hb.cell o0
      have o1 := hb.cell o1
      have Bo := Lib.hid (Bo.out.bel hb)
      have HS1t := Lib.hid s1.sl
      clear s1
      clear hb
      have bta := Blk.new v19 26 #[.int .i64 capC, .slice A1t nC c1t]
      have hb := (Bel.refl v19).alloc (.cells #[.int .i64 capC, .slice A1t nC c1t] 26)
      have HBW := Lib.hid (HBW.out.trans hb)
      have q0 := hb.cell q0
      have q1 := hb.cell q1
      have HBM := Lib.hid (HBM.out.bel hb)
      have HS := Lib.hid (HS.out.mono BlkR.mono hb)
      have HW := Lib.hid (HW.out.mono (IntR.mono _) hb)
      have HSO := Lib.hid (HSO.out.mono BlkR.mono hb)
      have o0 := hb.cell o0
      have o1 := hb.cell o1
      have Bo := Lib.hid (Bo.out.bel hb)
      have HS1t := Lib.hid (HS1t.out.mono BlkR.mono hb)
      have ta0 := bta.cell 0 (v := .int .i64 capC) rfl
      have ta1 := bta.cell 1 (v := .slice A1t nC c1t) rfl
      have Bta := Lib.hid bta
      clear hb bta
      go_wp2_with fail
      generalize v19.alloc (.cells #[.int .i64 capC, .slice A1t nC c1t] 26) = V19 at *
      generalize v19.heap.size = gta at *
      go_wp2_with fail
      refine (patch13_any cap A nn c l pl wd _ HS.out hn hlen HP (Lib.hid wf3) capC lC nC eC hpat hnC).mono ?_
      rintro e v20 ⟨A2t, c2t, rfl, s2, hb⟩
      have HBW := Lib.hid (HBW.out.trans hb)
      have q0 := hb.cell q0
      have q1 := hb.cell q1
      have HBM := Lib.hid (HBM.out.bel hb)
      have HS := Lib.hid (HS.out.mono BlkR.mono hb)
      have HW := Lib.hid (HW.out.mono (IntR.mono _) hb)
      have HSO := Lib.hid (HSO.out.mono BlkR.mono hb)
      have o0 := hb.cell o0
      have o1 := hb.cell o1
      have Bo := Lib.hid (Bo.out.bel hb)
      have HS1t := Lib.hid (HS1t.out.mono BlkR.mono hb)
      have ta0 := hb.cell ta0
      have ta1 := hb.cell ta1
      have Bta := Lib.hid (Bta.out.bel hb)
      have HS2t := Lib.hid s2.sl
      clear s2
      clear hb
      have btb := Blk.new v20 26 #[.int .i64 capC, .slice A2t nC c2t]
      have hb := (Bel.refl v20).alloc (.cells #[.int .i64 capC, .slice A2t nC c2t] 26)
      have HBW := Lib.hid (HBW.out.trans hb)
      have q0 := hb.cell q0
      have q1 := hb.cell q1
      have HBM := Lib.hid (HBM.out.bel hb)
      have HS := Lib.hid (HS.out.mono BlkR.mono hb)
      have HW := Lib.hid (HW.out.mono (IntR.mono _) hb)
      have HSO := Lib.hid (HSO.out.mono BlkR.mono hb)
      have o0 := hb.cell o0
      have o1 := hb.cell o1
      have Bo := Lib.hid (Bo.out.bel hb)
      have HS1t := Lib.hid (HS1t.out.mono BlkR.mono hb)
      have ta0 := hb.cell ta0
      have ta1 := hb.cell ta1
      have Bta := Lib.hid (Bta.out.bel hb)
      have HS2t := Lib.hid (HS2t.out.mono BlkR.mono hb)
      have tb0 := btb.cell 0 (v := .int .i64 capC) rfl
      have tb1 := btb.cell 1 (v := .slice A2t nC c2t) rfl
      have Btb := Lib.hid btb
      clear hb btb
      go_wp2_with fail
      generalize v20.alloc (.cells #[.int .i64 capC, .slice A2t nC c2t] 26) = V20 at *
      generalize v20.heap.size = gtb at *
      go_wp2_with fail
      refine (refSame_any capC capC A1t A2t nC nC c1t c2t lC lC true _ HS1t.out HS2t.out hnC hnC (Lib.hid (decide_eq_true rfl))).mono ?_
      rintro e v21 ⟨rfl, hb⟩
      have HBW := Lib.hid (HBW.out.trans hb)
      have q0 := hb.cell q0
      have q1 := hb.cell q1
      have HBM := Lib.hid (HBM.out.bel hb)
      have HS := Lib.hid (HS.out.mono BlkR.mono hb)
      have HW := Lib.hid (HW.out.mono (IntR.mono _) hb)
      have HSO := Lib.hid (HSO.out.mono BlkR.mono hb)
      have o0 := hb.cell o0
      have o1 := hb.cell o1
      have Bo := Lib.hid (Bo.out.bel hb)
      have HS1t := Lib.hid (HS1t.out.mono BlkR.mono hb)
      have ta0 := hb.cell ta0
      have ta1 := hb.cell ta1
      have Bta := Lib.hid (Bta.out.bel hb)
      have HS2t := Lib.hid (HS2t.out.mono BlkR.mono hb)
      have tb0 := hb.cell tb0
      have tb1 := hb.cell tb1
      have Btb := Lib.hid (Btb.out.bel hb)
      clear hb
      have tet : (eC == eC) = true := by simp
      go_wp2_with fail
      clear ta0 ta1 Bta
      clear tb0 tb1 Btb
      clear HS1t HS2t tet
      go_wp2_with fail
      refine (Find_any cap A nn c l N fa fo _ HS.out hn hNw HFD).mono ?_
      rintro e v22 ⟨rfl, hb⟩
      have HBW := Lib.hid (HBW.out.trans hb)
      have q0 := hb.cell q0
      have q1 := hb.cell q1
      have HBM := Lib.hid (HBM.out.bel hb)
      have HS := Lib.hid (HS.out.mono BlkR.mono hb)
      have HW := Lib.hid (HW.out.mono (IntR.mono _) hb)
      have HSO := Lib.hid (HSO.out.mono BlkR.mono hb)
      have o0 := hb.cell o0
      have o1 := hb.cell o1
      have Bo := Lib.hid (Bo.out.bel hb)
      clear hb
      go_wp2_with fail
      refine (find13_out cap A nn c l N fa fo _ HS.out hn hlen HFD).mono ?_
      rintro e v23 ⟨rfl, hb⟩
      have HBW := Lib.hid (HBW.out.trans hb)
      have q0 := hb.cell q0
      have q1 := hb.cell q1
      have HBM := Lib.hid (HBM.out.bel hb)
      have HS := Lib.hid (HS.out.mono BlkR.mono hb)
      have HW := Lib.hid (HW.out.mono (IntR.mono _) hb)
      have HSO := Lib.hid (HSO.out.mono BlkR.mono hb)
      have o0 := hb.cell o0
      have o1 := hb.cell o1
      have Bo := Lib.hid (Bo.out.bel hb)
      clear hb
      go_wp2_with fail
      refine (New_any pl _).mono ?_
      rintro e v24 ⟨rfl, hb⟩
      have HBW := Lib.hid (HBW.out.trans hb)
      have q0 := hb.cell q0
      have q1 := hb.cell q1
      have HBM := Lib.hid (HBM.out.bel hb)
      have HS := Lib.hid (HS.out.mono BlkR.mono hb)
      have HW := Lib.hid (HW.out.mono (IntR.mono _) hb)
      have HSO := Lib.hid (HSO.out.mono BlkR.mono hb)
      have o0 := hb.cell o0
      have o1 := hb.cell o1
      have Bo := Lib.hid (Bo.out.bel hb)
      clear hb
      have bna := Blk.new v24 26 #[.int .i64 (newC pl), .slice none 0 0]
      have hb := (Bel.refl v24).alloc (.cells #[.int .i64 (newC pl), .slice none 0 0] 26)
      have HBW := Lib.hid (HBW.out.trans hb)
      have q0 := hb.cell q0
      have q1 := hb.cell q1
      have HBM := Lib.hid (HBM.out.bel hb)
      have HS := Lib.hid (HS.out.mono BlkR.mono hb)
      have HW := Lib.hid (HW.out.mono (IntR.mono _) hb)
      have HSO := Lib.hid (HSO.out.mono BlkR.mono hb)
      have o0 := hb.cell o0
      have o1 := hb.cell o1
      have Bo := Lib.hid (Bo.out.bel hb)
      have na0 := bna.cell 0 (v := .int .i64 (newC pl)) rfl
      have na1 := bna.cell 1 (v := .slice none 0 0) rfl
      have Bna := Lib.hid bna
      clear hb bna
      go_wp2_with fail
      generalize v24.alloc (.cells #[.int .i64 (newC pl), .slice none 0 0] 26) = V24 at *
      generalize v24.heap.size = gna at *
      go_wp2_with fail
      refine (new13_any pl _).mono ?_
      rintro e v25 ⟨rfl, hb⟩
      have HBW := Lib.hid (HBW.out.trans hb)
      have q0 := hb.cell q0
      have q1 := hb.cell q1
      have HBM := Lib.hid (HBM.out.bel hb)
      have HS := Lib.hid (HS.out.mono BlkR.mono hb)
      have HW := Lib.hid (HW.out.mono (IntR.mono _) hb)
      have HSO := Lib.hid (HSO.out.mono BlkR.mono hb)
      have o0 := hb.cell o0
      have o1 := hb.cell o1
      have Bo := Lib.hid (Bo.out.bel hb)
      have na0 := hb.cell na0
      have na1 := hb.cell na1
      have Bna := Lib.hid (Bna.out.bel hb)
      clear hb
      have bnb := Blk.new v25 26 #[.int .i64 (newC pl), .slice none 0 0]
      have hb := (Bel.refl v25).alloc (.cells #[.int .i64 (newC pl), .slice none 0 0] 26)
      have HBW := Lib.hid (HBW.out.trans hb)
      have q0 := hb.cell q0
      have q1 := hb.cell q1
      have HBM := Lib.hid (HBM.out.bel hb)
      have HS := Lib.hid (HS.out.mono BlkR.mono hb)
      have HW := Lib.hid (HW.out.mono (IntR.mono _) hb)
      have HSO := Lib.hid (HSO.out.mono BlkR.mono hb)
      have o0 := hb.cell o0
      have o1 := hb.cell o1
      have Bo := Lib.hid (Bo.out.bel hb)
      have na0 := hb.cell na0
      have na1 := hb.cell na1
      have Bna := Lib.hid (Bna.out.bel hb)
      have nb0 := bnb.cell 0 (v := .int .i64 (newC pl)) rfl
      have nb1 := bnb.cell 1 (v := .slice none 0 0) rfl
      have Bnb := Lib.hid bnb
      clear hb bnb
      go_wp2_with fail
      generalize v25.alloc (.cells #[.int .i64 (newC pl), .slice none 0 0] 26) = V25 at *
      generalize v25.heap.size = gnb at *
      go_wp2_with fail
      refine (refSame_any (newC pl) (newC pl) none none 0 0 0 0 [] [] true _ (Sl.nil _ _ _) (Sl.nil _ _ _) (Lib.hid rfl) (Lib.hid rfl) (Lib.hid (decide_eq_true rfl))).mono ?_
      rintro e v26 ⟨rfl, hb⟩
      have HBW := Lib.hid (HBW.out.trans hb)
      have q0 := hb.cell q0
      have q1 := hb.cell q1
      have HBM := Lib.hid (HBM.out.bel hb)
      have HS := Lib.hid (HS.out.mono BlkR.mono hb)
      have HW := Lib.hid (HW.out.mono (IntR.mono _) hb)
      have HSO := Lib.hid (HSO.out.mono BlkR.mono hb)
      have o0 := hb.cell o0
      have o1 := hb.cell o1
      have Bo := Lib.hid (Bo.out.bel hb)
      have na0 := hb.cell na0
      have na1 := hb.cell na1
      have Bna := Lib.hid (Bna.out.bel hb)
      have nb0 := hb.cell nb0
      have nb1 := hb.cell nb1
      have Bnb := Lib.hid (Bnb.out.bel hb)
      clear hb
      have tn : (newE pl == newE pl) = true := by simp
      go_wp2_with fail
      clear na0 na1 Bna
      clear nb0 nb1 Bnb
      clear tn
      generalize v26 = W0 at *
      have Q0 := fun (w' : World) (h : Bel W0 w') => h.cell q0
      have Q1 := fun (w' : World) (h : Bel W0 w') => h.cell q1
      have O0 := fun (w' : World) (h : Bel W0 w') => h.cell o0
      have O1 := fun (w' : World) (h : Bel W0 w') => h.cell o1
      have tf : (fa == fa) = true := by simp
      have tg : (fo == fo) = true := by simp
      have tl : (lf == lf) = true := by simp
      have tm : (mb == mb) = true := by simp
      have HWW := HBW.out
      have HR : Bel W0 W0.drew := (Bel.refl W0).drew
      clear q0 q1 o0 o1 HBM HBW Bo HW
      refine wp_region_T (fun w' => Bel W0 w') (fun _ => false) (by kernel_rfl) ?_
      refine wpAnyU_take (i := 0) (v := ?v0) rfl (by kernel_rfl) (by kernel_rfl) (by kernel_rfl) (by kernel_rfl) (fun _ _ _ h => h) ?hy0 HR ?rest0
      case hy0 => first | (refine Or.inl ⟨by rfl, ?_⟩; (intro w' hSw; go_simp) <;> with_reducible rfl) | (refine Or.inr ⟨by rfl, ?_⟩; with_reducible rfl)
      try simp only [List.getElem_toArray, List.getElem_cons_zero, List.getElem_cons_succ, Act.put, List.setIfInBounds_toArray, List.set_cons_zero, List.set_cons_succ]
      refine wpAnyU_take (i := 1) (v := ?v1) rfl (by kernel_rfl) (by kernel_rfl) (by kernel_rfl) (by kernel_rfl) (fun _ _ _ h => h) ?hy1 HR ?rest1
      case hy1 => first | (refine Or.inl ⟨by rfl, ?_⟩; (intro w' hSw; go_simp) <;> with_reducible rfl) | (refine Or.inr ⟨by rfl, ?_⟩; with_reducible rfl)
      try simp only [List.getElem_toArray, List.getElem_cons_zero, List.getElem_cons_succ, Act.put, List.setIfInBounds_toArray, List.set_cons_zero, List.set_cons_succ]
      refine wpAnyU_take (i := 2) (v := ?v2) rfl (by kernel_rfl) (by kernel_rfl) (by kernel_rfl) (by kernel_rfl) (fun _ _ _ h => h) ?hy2 HR ?rest2
      case hy2 => first | (refine Or.inl ⟨by rfl, ?_⟩; (intro w' hSw; go_simp) <;> with_reducible rfl) | (refine Or.inr ⟨by rfl, ?_⟩; with_reducible rfl)
      try simp only [List.getElem_toArray, List.getElem_cons_zero, List.getElem_cons_succ, Act.put, List.setIfInBounds_toArray, List.set_cons_zero, List.set_cons_succ]
      refine wpAnyU_take (i := 3) (v := ?v3) rfl (by kernel_rfl) (by kernel_rfl) (by kernel_rfl) (by kernel_rfl) (fun _ _ _ h => h) ?hy3 HR ?rest3
      case hy3 => first | (refine Or.inl ⟨by rfl, ?_⟩; (intro w' hSw; go_simp) <;> with_reducible rfl) | (refine Or.inr ⟨by rfl, ?_⟩; with_reducible rfl)
      try simp only [List.getElem_toArray, List.getElem_cons_zero, List.getElem_cons_succ, Act.put, List.setIfInBounds_toArray, List.set_cons_zero, List.set_cons_succ]
      refine wpAnyU_take (i := 4) (v := ?v4) rfl (by kernel_rfl) (by kernel_rfl) (by kernel_rfl) (by kernel_rfl) (fun _ _ _ h => h) ?hy4 HR ?rest4
      case hy4 => first | (refine Or.inl ⟨by rfl, ?_⟩; (intro w' hSw; go_simp) <;> with_reducible rfl) | (refine Or.inr ⟨by rfl, ?_⟩; with_reducible rfl)
      try simp only [List.getElem_toArray, List.getElem_cons_zero, List.getElem_cons_succ, Act.put, List.setIfInBounds_toArray, List.set_cons_zero, List.set_cons_succ]
      refine wpAnyU_take (i := 5) (v := ?v5) rfl (by kernel_rfl) (by kernel_rfl) (by kernel_rfl) (by kernel_rfl) (fun _ _ _ h => h) ?hy5 HR ?rest5
      case hy5 => first | (refine Or.inl ⟨by rfl, ?_⟩; (intro w' hSw; go_simp) <;> with_reducible rfl) | (refine Or.inr ⟨by rfl, ?_⟩; with_reducible rfl)
      try simp only [List.getElem_toArray, List.getElem_cons_zero, List.getElem_cons_succ, Act.put, List.setIfInBounds_toArray, List.set_cons_zero, List.set_cons_succ]
      refine wpAnyU_take (i := 6) (v := ?v6) rfl (by kernel_rfl) (by kernel_rfl) (by kernel_rfl) (by kernel_rfl) (fun _ _ _ h => h) ?hy6 HR ?rest6
      case hy6 => first | (refine Or.inl ⟨by rfl, ?_⟩; (intro w' hSw; go_simp) <;> with_reducible rfl) | (refine Or.inr ⟨by rfl, ?_⟩; with_reducible rfl)
      try simp only [List.getElem_toArray, List.getElem_cons_zero, List.getElem_cons_succ, Act.put, List.setIfInBounds_toArray, List.set_cons_zero, List.set_cons_succ]
      refine wpAnyU_take (i := 7) (v := ?v7) rfl (by kernel_rfl) (by kernel_rfl) (by kernel_rfl) (by kernel_rfl) (fun _ _ _ h => h) ?hy7 HR ?rest7
      case hy7 => first | (refine Or.inl ⟨by rfl, ?_⟩; (intro w' hSw; go_simp) <;> with_reducible rfl) | (refine Or.inr ⟨by rfl, ?_⟩; with_reducible rfl)
      try simp only [List.getElem_toArray, List.getElem_cons_zero, List.getElem_cons_succ, Act.put, List.setIfInBounds_toArray, List.set_cons_zero, List.set_cons_succ]
      refine wpAnyU_take (i := 8) (v := ?v8) rfl (by kernel_rfl) (by kernel_rfl) (by kernel_rfl) (by kernel_rfl) (fun _ _ _ h => h) ?hy8 HR ?rest8
      case hy8 => first | (refine Or.inl ⟨by rfl, ?_⟩; (intro w' hSw; go_simp) <;> with_reducible rfl) | (refine Or.inr ⟨by rfl, ?_⟩; with_reducible rfl)
      try simp only [List.getElem_toArray, List.getElem_cons_zero, List.getElem_cons_succ, Act.put, List.setIfInBounds_toArray, List.set_cons_zero, List.set_cons_succ]
      refine wpAnyU_take (i := 9) (v := ?v9) rfl (by kernel_rfl) (by kernel_rfl) (by kernel_rfl) (by kernel_rfl) (fun _ _ _ h => h) ?hy9 HR ?rest9
      case hy9 => first | (refine Or.inl ⟨by rfl, ?_⟩; (intro w' hSw; go_simp) <;> with_reducible rfl) | (refine Or.inr ⟨by rfl, ?_⟩; with_reducible rfl)
      try simp only [List.getElem_toArray, List.getElem_cons_zero, List.getElem_cons_succ, Act.put, List.setIfInBounds_toArray, List.set_cons_zero, List.set_cons_succ]
      refine wpAnyU_take (i := 10) (v := ?v10) rfl (by kernel_rfl) (by kernel_rfl) (by kernel_rfl) (by kernel_rfl) (fun _ _ _ h => h) ?hy10 HR ?rest10
      case hy10 => first | (refine Or.inl ⟨by rfl, ?_⟩; (intro w' hSw; go_simp) <;> with_reducible rfl) | (refine Or.inr ⟨by rfl, ?_⟩; with_reducible rfl)
      try simp only [List.getElem_toArray, List.getElem_cons_zero, List.getElem_cons_succ, Act.put, List.setIfInBounds_toArray, List.set_cons_zero, List.set_cons_succ]
      refine wpAnyU_take (i := 11) (v := ?v11) rfl (by kernel_rfl) (by kernel_rfl) (by kernel_rfl) (by kernel_rfl) (fun _ _ _ h => h) ?hy11 HR ?rest11
      case hy11 => first | (refine Or.inl ⟨by rfl, ?_⟩; (intro w' hSw; go_simp) <;> with_reducible rfl) | (refine Or.inr ⟨by rfl, ?_⟩; with_reducible rfl)
      try simp only [List.getElem_toArray, List.getElem_cons_zero, List.getElem_cons_succ, Act.put, List.setIfInBounds_toArray, List.set_cons_zero, List.set_cons_succ]
      refine wpAnyU_take (i := 12) (v := ?v12) rfl (by kernel_rfl) (by kernel_rfl) (by kernel_rfl) (by kernel_rfl) (fun _ _ _ h => h) ?hy12 HR ?rest12
      case hy12 => first | (refine Or.inl ⟨by rfl, ?_⟩; (intro w' hSw; go_simp) <;> with_reducible rfl) | (refine Or.inr ⟨by rfl, ?_⟩; with_reducible rfl)
      try simp only [List.getElem_toArray, List.getElem_cons_zero, List.getElem_cons_succ, Act.put, List.setIfInBounds_toArray, List.set_cons_zero, List.set_cons_succ]
      refine wpAnyU_take (i := 13) (v := ?v13) rfl (by kernel_rfl) (by kernel_rfl) (by kernel_rfl) (by kernel_rfl) (fun _ _ _ h => h) ?hy13 HR ?rest13
      case hy13 => first | (refine Or.inl ⟨by rfl, ?_⟩; (intro w' hSw; go_simp) <;> with_reducible rfl) | (refine Or.inr ⟨by rfl, ?_⟩; with_reducible rfl)
      try simp only [List.getElem_toArray, List.getElem_cons_zero, List.getElem_cons_succ, Act.put, List.setIfInBounds_toArray, List.set_cons_zero, List.set_cons_succ]
      refine wpAnyU_take (i := 14) (v := ?v14) rfl (by kernel_rfl) (by kernel_rfl) (by kernel_rfl) (by kernel_rfl) (fun _ _ _ h => h) ?hy14 HR ?rest14
      case hy14 => first | (refine Or.inl ⟨by rfl, ?_⟩; (intro w' hSw; go_simp) <;> with_reducible rfl) | (refine Or.inr ⟨by rfl, ?_⟩; with_reducible rfl)
      try simp only [List.getElem_toArray, List.getElem_cons_zero, List.getElem_cons_succ, Act.put, List.setIfInBounds_toArray, List.set_cons_zero, List.set_cons_succ]
      refine wpAnyU_take (i := 15) (v := ?v15) rfl (by kernel_rfl) (by kernel_rfl) (by kernel_rfl) (by kernel_rfl) (fun _ _ _ h => h) ?hy15 HR ?rest15
      case hy15 => first | (refine Or.inl ⟨by rfl, ?_⟩; (intro w' hSw; go_simp) <;> with_reducible rfl) | (refine Or.inr ⟨by rfl, ?_⟩; with_reducible rfl)
      try simp only [List.getElem_toArray, List.getElem_cons_zero, List.getElem_cons_succ, Act.put, List.setIfInBounds_toArray, List.set_cons_zero, List.set_cons_succ]
      refine wpAnyU_take (i := 16) (v := ?v16) rfl (by kernel_rfl) (by kernel_rfl) (by kernel_rfl) (by kernel_rfl) (fun _ _ _ h => h) ?hy16 HR ?rest16
      case hy16 => first | (refine Or.inl ⟨by rfl, ?_⟩; (intro w' hSw; go_simp) <;> with_reducible rfl) | (refine Or.inr ⟨by rfl, ?_⟩; with_reducible rfl)
      try simp only [List.getElem_toArray, List.getElem_cons_zero, List.getElem_cons_succ, Act.put, List.setIfInBounds_toArray, List.set_cons_zero, List.set_cons_succ]
      refine wpAnyU_take (i := 17) (v := ?v17) rfl (by kernel_rfl) (by kernel_rfl) (by kernel_rfl) (by kernel_rfl) (fun _ _ _ h => h) ?hy17 HR ?rest17
      case hy17 => first | (refine Or.inl ⟨by rfl, ?_⟩; (intro w' hSw; go_simp) <;> with_reducible rfl) | (refine Or.inr ⟨by rfl, ?_⟩; with_reducible rfl)
      try simp only [List.getElem_toArray, List.getElem_cons_zero, List.getElem_cons_succ, Act.put, List.setIfInBounds_toArray, List.set_cons_zero, List.set_cons_succ]
      refine wpAnyU_take (i := 18) (v := ?v18) rfl (by kernel_rfl) (by kernel_rfl) (by kernel_rfl) (by kernel_rfl) (fun _ _ _ h => h) ?hy18 HR ?rest18
      case hy18 => first | (refine Or.inl ⟨by rfl, ?_⟩; (intro w' hSw; go_simp) <;> with_reducible rfl) | (refine Or.inr ⟨by rfl, ?_⟩; with_reducible rfl)
      try simp only [List.getElem_toArray, List.getElem_cons_zero, List.getElem_cons_succ, Act.put, List.setIfInBounds_toArray, List.set_cons_zero, List.set_cons_succ]
      refine wpAnyU_take (i := 19) (v := ?v19) rfl (by kernel_rfl) (by kernel_rfl) (by kernel_rfl) (by kernel_rfl) (fun _ _ _ h => h) ?hy19 HR ?rest19
      case hy19 => first | (refine Or.inl ⟨by rfl, ?_⟩; (intro w' hSw; go_simp) <;> with_reducible rfl) | (refine Or.inr ⟨by rfl, ?_⟩; with_reducible rfl)
      try simp only [List.getElem_toArray, List.getElem_cons_zero, List.getElem_cons_succ, Act.put, List.setIfInBounds_toArray, List.set_cons_zero, List.set_cons_succ]
      refine wpAnyU_take (i := 20) (v := ?v20) rfl (by kernel_rfl) (by kernel_rfl) (by kernel_rfl) (by kernel_rfl) (fun _ _ _ h => h) ?hy20 HR ?rest20
      case hy20 => first | (refine Or.inl ⟨by rfl, ?_⟩; (intro w' hSw; go_simp) <;> with_reducible rfl) | (refine Or.inr ⟨by rfl, ?_⟩; with_reducible rfl)
      try simp only [List.getElem_toArray, List.getElem_cons_zero, List.getElem_cons_succ, Act.put, List.setIfInBounds_toArray, List.set_cons_zero, List.set_cons_succ]
      refine wpAnyU_take (i := 21) (v := ?v21) rfl (by kernel_rfl) (by kernel_rfl) (by kernel_rfl) (by kernel_rfl) (fun _ _ _ h => h) ?hy21 HR ?rest21
      case hy21 => first | (refine Or.inl ⟨by rfl, ?_⟩; (intro w' hSw; go_simp) <;> with_reducible rfl) | (refine Or.inr ⟨by rfl, ?_⟩; with_reducible rfl)
      try simp only [List.getElem_toArray, List.getElem_cons_zero, List.getElem_cons_succ, Act.put, List.setIfInBounds_toArray, List.set_cons_zero, List.set_cons_succ]
      refine wpAnyU_take (i := 22) (v := ?v22) rfl (by kernel_rfl) (by kernel_rfl) (by kernel_rfl) (by kernel_rfl) (fun _ _ _ h => h) ?hy22 HR ?rest22
      case hy22 => first | (refine Or.inl ⟨by rfl, ?_⟩; (intro w' hSw; go_simp) <;> with_reducible rfl) | (refine Or.inr ⟨by rfl, ?_⟩; with_reducible rfl)
      try simp only [List.getElem_toArray, List.getElem_cons_zero, List.getElem_cons_succ, Act.put, List.setIfInBounds_toArray, List.set_cons_zero, List.set_cons_succ]
      refine wpAnyU_take (i := 23) (v := ?v23) rfl (by kernel_rfl) (by kernel_rfl) (by kernel_rfl) (by kernel_rfl) (fun _ _ _ h => h) ?hy23 HR ?rest23
      case hy23 => first | (refine Or.inl ⟨by rfl, ?_⟩; (intro w' hSw; go_simp) <;> with_reducible rfl) | (refine Or.inr ⟨by rfl, ?_⟩; with_reducible rfl)
      try simp only [List.getElem_toArray, List.getElem_cons_zero, List.getElem_cons_succ, Act.put, List.setIfInBounds_toArray, List.set_cons_zero, List.set_cons_succ]
      refine wpAnyU_take (i := 24) (v := ?v24) rfl (by kernel_rfl) (by kernel_rfl) (by kernel_rfl) (by kernel_rfl) (fun _ _ _ h => h) ?hy24 HR ?rest24
      case hy24 => first | (refine Or.inl ⟨by rfl, ?_⟩; (intro w' hSw; go_simp) <;> with_reducible rfl) | (refine Or.inr ⟨by rfl, ?_⟩; with_reducible rfl)
      try simp only [List.getElem_toArray, List.getElem_cons_zero, List.getElem_cons_succ, Act.put, List.setIfInBounds_toArray, List.set_cons_zero, List.set_cons_succ]
      refine wpAnyU_take (i := 25) (v := ?v25) rfl (by kernel_rfl) (by kernel_rfl) (by kernel_rfl) (by kernel_rfl) (fun _ _ _ h => h) ?hy25 HR ?rest25
      case hy25 => first | (refine Or.inl ⟨by rfl, ?_⟩; (intro w' hSw; go_simp) <;> with_reducible rfl) | (refine Or.inr ⟨by rfl, ?_⟩; with_reducible rfl)
      try simp only [List.getElem_toArray, List.getElem_cons_zero, List.getElem_cons_succ, Act.put, List.setIfInBounds_toArray, List.set_cons_zero, List.set_cons_succ]
      refine wpAnyT_one (i := 26) (by kernel_rfl) rfl (fun K hK => ?_)
      go_simp
      go_at_call 18
      refine (refSame_any cap cap A A0 nn nn c c0 l l true _ (HS.out.mono BlkR.mono HR) (HSO.out.mono BlkR.mono HR) hn hn (Lib.hid (decide_eq_true rfl))).mono ?_
      rintro e w51 ⟨rfl, hb1⟩
      have HR26 : Bel W0 w51 := HR.trans hb1
      refine hK.out _ _ (fun _ => HR26) ?_
      clear hK K
      try simp only [List.getElem_toArray, List.getElem_cons_zero, List.getElem_cons_succ, Act.put, List.setIfInBounds_toArray, List.set_cons_zero, List.set_cons_succ]
      refine wpAnyU_take (i := 27) (v := ?v27) rfl (by kernel_rfl) (by kernel_rfl) (by kernel_rfl) (by kernel_rfl) (fun _ _ _ h => h) ?hy27 HR26 ?rest27
      case hy27 => first | (refine Or.inl ⟨by rfl, ?_⟩; (intro w' hSw; go_simp) <;> with_reducible rfl) | (refine Or.inr ⟨by rfl, ?_⟩; with_reducible rfl)
      try simp only [List.getElem_toArray, List.getElem_cons_zero, List.getElem_cons_succ, Act.put, List.setIfInBounds_toArray, List.set_cons_zero, List.set_cons_succ]
      refine wpAnyU_take (i := 28) (v := ?v28) rfl (by kernel_rfl) (by kernel_rfl) (by kernel_rfl) (by kernel_rfl) (fun _ _ _ h => h) ?hy28 HR26 ?rest28
      case hy28 => first | (refine Or.inl ⟨by rfl, ?_⟩; (intro w' hSw; go_simp) <;> with_reducible rfl) | (refine Or.inr ⟨by rfl, ?_⟩; with_reducible rfl)
      try simp only [List.getElem_toArray, List.getElem_cons_zero, List.getElem_cons_succ, Act.put, List.setIfInBounds_toArray, List.set_cons_zero, List.set_cons_succ]
      refine wpAnyU_take (i := 29) (v := ?v29) rfl (by kernel_rfl) (by kernel_rfl) (by kernel_rfl) (by kernel_rfl) (fun _ _ _ h => h) ?hy29 HR26 ?rest29
      case hy29 => first | (refine Or.inl ⟨by rfl, ?_⟩; (intro w' hSw; go_simp) <;> with_reducible rfl) | (refine Or.inr ⟨by rfl, ?_⟩; with_reducible rfl)
      try simp only [List.getElem_toArray, List.getElem_cons_zero, List.getElem_cons_succ, Act.put, List.setIfInBounds_toArray, List.set_cons_zero, List.set_cons_succ]
      refine wpAnyU_take (i := 31) (v := ?v31) rfl (by kernel_rfl) (by kernel_rfl) (by kernel_rfl) (by kernel_rfl) (fun _ _ _ h => h) ?hy31 HR26 ?rest31
      case hy31 => first | (refine Or.inl ⟨by rfl, ?_⟩; (intro w' hSw; go_simp) <;> with_reducible rfl) | (refine Or.inr ⟨by rfl, ?_⟩; with_reducible rfl)
      try simp only [List.getElem_toArray, List.getElem_cons_zero, List.getElem_cons_succ, Act.put, List.setIfInBounds_toArray, List.set_cons_zero, List.set_cons_succ]
      refine wpAnyT_one (i := 30) (by kernel_rfl) rfl (fun K hK => ?_)
      go_simp
      go_at_call 12
      refine (Left_any cap A nn c l lf _ (HS.out.mono BlkR.mono HR26) hn HL).mono ?_
      rintro e w52 ⟨rfl, hb2⟩
      have HR30 : Bel W0 w52 := HR26.trans hb2
      refine hK.out _ _ (fun _ => HR30) ?_
      clear hK K
      try simp only [List.getElem_toArray, List.getElem_cons_zero, List.getElem_cons_succ, Act.put, List.setIfInBounds_toArray, List.set_cons_zero, List.set_cons_succ]
      refine wpAnyT_one (i := 32) (by kernel_rfl) rfl (fun K hK => ?_)
      go_simp
      go_at_call 27
      refine (left13_any cap A nn c l lf _ (HS.out.mono BlkR.mono HR30) hn hlen HL).mono ?_
      rintro e w53 ⟨rfl, hb3⟩
      have HR32 : Bel W0 w53 := HR30.trans hb3
      refine hK.out _ _ (fun _ => HR32) ?_
      clear hK K
      try simp only [List.getElem_toArray, List.getElem_cons_zero, List.getElem_cons_succ, Act.put, List.setIfInBounds_toArray, List.set_cons_zero, List.set_cons_succ]
      refine wpAnyU_take (i := 33) (v := ?v33) rfl (by kernel_rfl) (by kernel_rfl) (by kernel_rfl) (by kernel_rfl) (fun _ _ _ h => h) ?hy33 HR32 ?rest33
      case hy33 => first | (refine Or.inl ⟨by rfl, ?_⟩; (intro w' hSw; go_simp) <;> with_reducible rfl) | (refine Or.inr ⟨by rfl, ?_⟩; with_reducible rfl)
      try simp only [List.getElem_toArray, List.getElem_cons_zero, List.getElem_cons_succ, Act.put, List.setIfInBounds_toArray, List.set_cons_zero, List.set_cons_succ]
      refine wpAnyU_take (i := 34) (v := ?v34) rfl (by kernel_rfl) (by kernel_rfl) (by kernel_rfl) (by kernel_rfl) (fun _ _ _ h => h) ?hy34 HR32 ?rest34
      case hy34 => first | (refine Or.inl ⟨by rfl, ?_⟩; (intro w' hSw; go_simp) <;> with_reducible rfl) | (refine Or.inr ⟨by rfl, ?_⟩; with_reducible rfl)
      try simp only [List.getElem_toArray, List.getElem_cons_zero, List.getElem_cons_succ, Act.put, List.setIfInBounds_toArray, List.set_cons_zero, List.set_cons_succ]
      refine wpAnyU_take (i := 35) (v := ?v35) rfl (by kernel_rfl) (by kernel_rfl) (by kernel_rfl) (by kernel_rfl) (fun _ _ _ h => h) ?hy35 HR32 ?rest35
      case hy35 => first | (refine Or.inl ⟨by rfl, ?_⟩; (intro w' hSw; go_simp) <;> with_reducible rfl) | (refine Or.inr ⟨by rfl, ?_⟩; with_reducible rfl)
      try simp only [List.getElem_toArray, List.getElem_cons_zero, List.getElem_cons_succ, Act.put, List.setIfInBounds_toArray, List.set_cons_zero, List.set_cons_succ]
      refine wpAnyU_take (i := 36) (v := ?v36) rfl (by kernel_rfl) (by kernel_rfl) (by kernel_rfl) (by kernel_rfl) (fun _ _ _ h => h) ?hy36 HR32 ?rest36
      case hy36 => first | (refine Or.inl ⟨by rfl, ?_⟩; (intro w' hSw; go_simp) <;> with_reducible rfl) | (refine Or.inr ⟨by rfl, ?_⟩; with_reducible rfl)
      try simp only [List.getElem_toArray, List.getElem_cons_zero, List.getElem_cons_succ, Act.put, List.setIfInBounds_toArray, List.set_cons_zero, List.set_cons_succ]
      refine wpAnyU_take (i := 38) (v := ?v38) rfl (by kernel_rfl) (by kernel_rfl) (by kernel_rfl) (by kernel_rfl) (fun _ _ _ h => h) ?hy38 HR32 ?rest38
      case hy38 => first | (refine Or.inl ⟨by rfl, ?_⟩; (intro w' hSw; go_simp) <;> with_reducible rfl) | (refine Or.inr ⟨by rfl, ?_⟩; with_reducible rfl)
      try simp only [List.getElem_toArray, List.getElem_cons_zero, List.getElem_cons_succ, Act.put, List.setIfInBounds_toArray, List.set_cons_zero, List.set_cons_succ]
      refine wpAnyT_one (i := 37) (by kernel_rfl) rfl (fun K hK => ?_)
      go_simp
      go_at_call 14
      refine (May_any cap A nn c l mb _ (HS.out.mono BlkR.mono HR32) hn hmb).mono ?_
      rintro e w54 ⟨rfl, hb4⟩
      have HR37 : Bel W0 w54 := HR32.trans hb4
      refine hK.out _ _ (fun _ => HR37) ?_
      clear hK K
      try simp only [List.getElem_toArray, List.getElem_cons_zero, List.getElem_cons_succ, Act.put, List.setIfInBounds_toArray, List.set_cons_zero, List.set_cons_succ]
      refine wpAnyT_one (i := 39) (by kernel_rfl) rfl (fun K hK => ?_)
      go_simp
      go_at_call 28
      refine (may13_any cap A nn c l mb _ (HS.out.mono BlkR.mono HR37) hn hlen hmb).mono ?_
      rintro e w55 ⟨rfl, hb5⟩
      have HR39 : Bel W0 w55 := HR37.trans hb5
      refine hK.out _ _ (fun _ => HR39) ?_
      clear hK K
      try simp only [List.getElem_toArray, List.getElem_cons_zero, List.getElem_cons_succ, Act.put, List.setIfInBounds_toArray, List.set_cons_zero, List.set_cons_succ]
      refine wpAnyU_take (i := 40) (v := ?v40) rfl (by kernel_rfl) (by kernel_rfl) (by kernel_rfl) (by kernel_rfl) (fun _ _ _ h => h) ?hy40 HR39 ?rest40
      case hy40 => first | (refine Or.inl ⟨by rfl, ?_⟩; (intro w' hSw; go_simp) <;> with_reducible rfl) | (refine Or.inr ⟨by rfl, ?_⟩; with_reducible rfl)
      try simp only [List.getElem_toArray, List.getElem_cons_zero, List.getElem_cons_succ, Act.put, List.setIfInBounds_toArray, List.set_cons_zero, List.set_cons_succ]
      refine wpAnyU_take (i := 41) (v := ?v41) rfl (by kernel_rfl) (by kernel_rfl) (by kernel_rfl) (by kernel_rfl) (fun _ _ _ h => h) ?hy41 HR39 ?rest41
      case hy41 => first | (refine Or.inl ⟨by rfl, ?_⟩; (intro w' hSw; go_simp) <;> with_reducible rfl) | (refine Or.inr ⟨by rfl, ?_⟩; with_reducible rfl)
      try simp only [List.getElem_toArray, List.getElem_cons_zero, List.getElem_cons_succ, Act.put, List.setIfInBounds_toArray, List.set_cons_zero, List.set_cons_succ]
      refine wpAnyU_take (i := 42) (v := ?v42) rfl (by kernel_rfl) (by kernel_rfl) (by kernel_rfl) (by kernel_rfl) (fun _ _ _ h => h) ?hy42 HR39 ?rest42
      case hy42 => first | (refine Or.inl ⟨by rfl, ?_⟩; (intro w' hSw; go_simp) <;> with_reducible rfl) | (refine Or.inr ⟨by rfl, ?_⟩; with_reducible rfl)
      try simp only [List.getElem_toArray, List.getElem_cons_zero, List.getElem_cons_succ, Act.put, List.setIfInBounds_toArray, List.set_cons_zero, List.set_cons_succ]
      refine wpAnyT_done (by kernel_rfl) ?_ _
      refine NoPanic.normal ?_
      go_wp2
      go_ret
      exact ⟨by first | rfl | (simp; done) | (simp; omega), HWW.trans HR39⟩
end Go.Proofs.Ytegdnmlpoglfeaa
