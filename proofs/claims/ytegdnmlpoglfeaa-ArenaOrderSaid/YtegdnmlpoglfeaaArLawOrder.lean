/- The walk of ArenaOrder. -/
import Derived.Test.YtegdnmlpoglfeaaArLaw4
import Derived.Test.YtegdnmlpoglfeaaArLawBack
set_option linter.unusedVariables false
set_option linter.unusedSimpArgs false
namespace Go.Proofs.Ytegdnmlpoglfeaa
open Go.RowKit

set_option maxRecDepth 100000 in
set_option maxHeartbeats 8000000 in
theorem ArenaOrder_walk (room : Int) (B : Option Addr) (c2 : Nat) (ats : List Int) (size : Int) (w : World) (wf1 : (Lit.int .i64 room).wf = true) (hw : Sl (IntR .i64) 1 w B c2 ats) (wf2 : (Lit.int .i64 size).wf = true) :
    Calls Try.prog 3 #[.int .i64 room, .slice B ats.length c2, .int .i64 size] w fun e w' => e = .returned (.bool true) ∧ Bel w w' := by
  obtain ⟨K, hK⟩ : ∃ K, Hid (ats.length = K) := ⟨_, Lib.hid rfl⟩
  rw [hK.out]
  have HAT := Lib.hid hw
  clear hw
  by_cases hroom : roomB room = true
  · have hC : newC room = room := if_pos hroom
    have hE : newE room = 0 := if_pos hroom
    obtain ⟨h0, h1⟩ : 0 ≤ room ∧ room ≤ 1024 := of_decide_eq_true hroom
    clear hroom
    by_cases hk20 : (20 : Int) < K
    · go_enter Try.func3, Try.ntmps3
      go_wp2_with fail
      refine (awake13 _).mono ?_
      rintro e w1 ⟨rfl, hb1⟩
      go_wp2_with fail
      refine (New_any room _).mono ?_
      rintro e w2 ⟨rfl, hb2⟩
      rw [hC, hE]
      have HBW := (hb1.trans hb2).alloc (.cells #[.int .i64 room, .slice none 0 0] 26)
      go_wp2_with fail
      go_ret
      exact ⟨by first | rfl | simp, HBW⟩
    · have hk20' : ¬ (20 : Int) < K := hk20
      by_cases hs1 : size < 1
      · go_enter Try.func3, Try.ntmps3
        go_wp2_with fail
        refine (awake13 _).mono ?_
        rintro e w1 ⟨rfl, hb1⟩
        go_wp2_with fail
        refine (New_any room _).mono ?_
        rintro e w2 ⟨rfl, hb2⟩
        rw [hC, hE]
        have HBW := (hb1.trans hb2).alloc (.cells #[.int .i64 room, .slice none 0 0] 26)
        go_wp2_with fail
        go_ret
        exact ⟨by first | rfl | simp, HBW⟩
      · have hs1' : ¬ size < 1 := hs1
        by_cases hs2 : 30 < size
        · go_enter Try.func3, Try.ntmps3
          go_wp2_with fail
          refine (awake13 _).mono ?_
          rintro e w1 ⟨rfl, hb1⟩
          go_wp2_with fail
          refine (New_any room _).mono ?_
          rintro e w2 ⟨rfl, hb2⟩
          rw [hC, hE]
          have HBW := (hb1.trans hb2).alloc (.cells #[.int .i64 room, .slice none 0 0] 26)
          go_wp2_with fail
          go_ret
          exact ⟨by first | rfl | simp, HBW⟩
        · have hs2' : ¬ 30 < size := hs2
          obtain ⟨n, rfl⟩ : ∃ n : Nat, size = n := ⟨size.toNat, by omega⟩
          have hn4 : n ≤ 4096 := by omega
          have hm := make_words n hn4
          go_enter Try.func3, Try.ntmps3
          go_wp2_with fail
          refine (awake13 _).mono ?_
          rintro e w1 ⟨rfl, hb1⟩
          go_wp2_with fail
          refine (New_any room _).mono ?_
          rintro e w2 ⟨rfl, hb2⟩
          rw [hC, hE]
          have hb0 := hb1.trans hb2
          have bM := Blk.new w2 26 #[.int .i64 room, .slice none 0 0]
          have HB0 := Lib.hid (hb0.alloc (.cells #[.int .i64 room, .slice none 0 0] 26))
          have hg0 := hb0.size
          have HBM0 := Lib.hid bM
          clear hb1 hb2 hb0 bM
          go_wp2_with fail
          generalize w2.alloc (.cells #[.int .i64 room, .slice none 0 0] 26) = W0 at *
          generalize w2.heap.size = g at *
          go_loopw [10, 11] (fun mv iv wr => ∃ (i : Nat) (A : Option Addr) (c : Nat) (l : List BlkD), iv = .int .i64 i ∧ mv = .int .i64 l.length ∧ i ≤ K ∧ Blk wr g 26 #[.int .i64 room, .slice A l.length c] ∧ SlS (g + 1) wr A c l ∧ OrdM room n 1 (i : Int) ⟨room, l⟩ ∧ Bel w wr) (fun _ iv _ => K - (intOf iv).toNat)
          case atStart => exact ⟨0, none, 0, [], rfl, rfl, Nat.zero_le _, HBM0.out, SlS.nil _ _ _ _ (by decide), OrdM.nil h0 h1 _ _ _, HB0.out⟩
          case round =>
            obtain ⟨i, A, c, l, rfl, rfl, hi, hbk, hss, hor, hbw⟩ := hrel
            by_cases hin : i = K
            · obtain ⟨i0n, hi0⟩ : ∃ i0n, i0n = i := ⟨_, rfl⟩
              subst hi0
              subst hin
              have q0 : wr.cell? ⟨g, 0, none⟩ = some (.int .i64 room) := hbk.cell 0 rfl
              have q1 : wr.cell? ⟨g, 1, none⟩ = some (.slice A l.length c) := hbk.cell 1 rfl
              have HBK := Lib.hid hbk
              have HSS := Lib.hid hss
              have HOR := Lib.hid hor
              have HB := Lib.hid hbw
              have hfew := hor.ok.few
              simp only at hfew
              clear hbk hss hor hbw
              go_wp2_with fail
              clear q0 q1
              obtain ⟨W1, hW1⟩ : ∃ W1, W1 = wr := ⟨_, rfl⟩
              subst hW1
              go_loopw [14] (fun jv wr => ∃ j : Nat, jv = .int .i64 j ∧ 1 ≤ j ∧ j ≤ l.length + 1 ∧ Bel W1 wr) (fun jv _ => l.length + 1 - (intOf jv).toNat)
              case atStart => exact ⟨1, rfl, Nat.le_refl _, by omega, Bel.refl _⟩
              case round =>
                obtain ⟨j, rfl, hj1, hj2, hbj⟩ := hrel
                have q0 : wr.cell? ⟨g, 0, none⟩ = some (.int .i64 room) := (HBK.out.bel hbj).cell 0 rfl
                have q1 : wr.cell? ⟨g, 1, none⟩ = some (.slice A l.length c) := (HBK.out.bel hbj).cell 1 rfl
                have HB2 := Lib.hid (HB.out.trans hbj)
                have HBJ := Lib.hid hbj
                by_cases hjl : j < l.length
                · obtain ⟨q, hjq⟩ : ∃ q, j = q + 1 := ⟨j - 1, by omega⟩
                  have hq : q < l.length := by omega
                  have HAP := HOR.out.apart (j := q) (by simp only; omega)
                  have hsz := HOR.out.ok.bounds (i := q) hq
                  simp only at HAP hsz
                  rw [← hjq] at HAP
                  obtain ⟨b0, o0, rfl⟩ := (HSS.out.sl).addr (by omega)
                  obtain ⟨A1', c1', -, a1, -, -, -, -⟩ := blk_cells ((HSS.out.bel hbj).sl) j hjl
                  obtain ⟨A2', c2', -, a2, -, -, -, -⟩ := blk_cells ((HSS.out.bel hbj).sl) q hq
                  have ej : IntKind.i64.wrap ((j : Int) - 1) = (q : Int) := by rw [wrap_i64 (by omega) (by omega)]; omega
                  have ej1 : IntKind.i64.wrap ((j : Int) + 1) = (j : Int) + 1 := wrap_i64 (by omega) (by omega)
                  have hqj : q < j := by omega
                  clear hjq
                  generalize (l[j]!).at' = x1 at *
                  generalize (l[q]!).at' = x2 at *
                  have es : IntKind.i64.wrap (x2 + (n : Int)) = x2 + n := wrap_i64 (by omega) (by omega)
                  have hlt : ¬ x1 < x2 + (n : Int) := by omega
                  have hj3 : (j : Int) < (l.length : Int) := by omega
                  have j0 : 0 ≤ (j : Int) := by omega
                  have hq3 : (q : Int) < (l.length : Int) := by omega
                  have qz : 0 ≤ (q : Int) := by omega
                  clear hbj HAP hsz
                  go_wp2_with fail
                  go_quiet (fail)
                  go_wp2
                  go_roundw
                  case rel => exact ⟨j + 1, by simp, by omega, by omega, by repeat (first | exact HBJ.out | apply Bel.drew | apply Bel.drewN)⟩
                  case measure => simp [intOf]; omega
                · have hjl' : ¬ (j : Int) < (l.length : Int) := by omega
                  have HSS2 := Lib.hid (HSS.out.bel hbj)
                  have HBK2 := Lib.hid (HBK.out.bel hbj)
                  obtain ⟨lf, hlf⟩ : ∃ lf, leftM ⟨room, l⟩ = lf := ⟨_, rfl⟩
                  have hlr := HOR.out.left
                  rw [hlf] at hlr
                  have HLF := Lib.hid hlf
                  clear hbj hlf
                  go_wp2_with fail
                  refine (Left_any room A l.length c l lf _ HSS2.out.sl (Lib.hid rfl) HLF).mono ?_
                  rintro e w6 ⟨rfl, hb⟩
                  have HSS3 := Lib.hid (HSS2.out.bel hb)
                  have HBK3 := Lib.hid (HBK2.out.bel hb)
                  have HB3 := Lib.hid (HB2.out.trans hb)
                  clear hb q0 q1
                  go_wp2_with fail
                  go_loopw [10, 16] (fun mv iv wr => ∃ (i : Nat) (A : Option Addr) (c : Nat) (l : List BlkD), iv = .int .i64 i ∧ mv = .int .i64 l.length ∧ i ≤ i0n ∧ Blk wr g 26 #[.int .i64 room, .slice A l.length c] ∧ SlS (g + 1) wr A c l ∧ OrdM room n ((i : Int) + 1) (i0n : Int) ⟨room, l⟩ ∧ Bel w wr) (fun _ iv _ => i0n - (intOf iv).toNat)
                  case atStart => exact ⟨0, A, c, l, rfl, rfl, Nat.zero_le _, HBK3.out, HSS3.out, by simpa using HOR.out, HB3.out⟩
                  case round =>
                    clear HBK HSS HOR HB HSS2 HBK2 HSS3 HBK3 HB3 HB2 HBJ HLF
                    obtain ⟨i, A, c, l, rfl, rfl, hi, hbk, hss, hor, hbw⟩ := hrel
                    by_cases hin : i = i0n
                    · subst hin
                      obtain ⟨rfl⟩ : l = [] := by have := hor.none (by omega); simp only [MemD.mk.injEq, true_and] at this; exact this
                      have q0 : wr.cell? ⟨g, 0, none⟩ = some (.int .i64 room) := hbk.cell 0 rfl
                      have q1 : wr.cell? ⟨g, 1, none⟩ = some (.slice A 0 c) := hbk.cell 1 rfl
                      have HB := Lib.hid hbw
                      have HSS := Lib.hid hss
                      clear hbw hbk hss hor
                      go_wp2_with fail
                      refine (Left_any room A 0 c [] room _ HSS.out.sl (Lib.hid rfl) (Lib.hid (left_nil h0 h1))).mono ?_
                      rintro e w8 ⟨rfl, hb⟩
                      have q0 := hb.cell q0
                      have q1 := hb.cell q1
                      have HSS := Lib.hid (HSS.out.bel hb)
                      have HB := Lib.hid (HB.out.trans hb)
                      clear hb
                      go_wp2_with fail
                      refine (May_any room A 0 c [] true _ HSS.out.sl (Lib.hid rfl) (Lib.hid (may_nil h0 h1))).mono ?_
                      rintro e w9 ⟨rfl, hb⟩
                      have HB := Lib.hid (HB.out.trans hb)
                      clear hb
                      go_wp2_with fail
                      go_ret
                      exact ⟨by first | rfl | simp, HB.out⟩
                    · have hi1 : i < i0n := by omega
                      have hi2 : (i : Int) < i0n := by omega
                      have i0 : 0 ≤ (i : Int) := by omega
                      have ei : IntKind.i64.wrap ((i : Int) + 1) = (i : Int) + 1 := wrap_i64 (by omega) (by omega)
                      have q0 : wr.cell? ⟨g, 0, none⟩ = some (.int .i64 room) := hbk.cell 0 rfl
                      have q1 : wr.cell? ⟨g, 1, none⟩ = some (.slice A l.length c) := hbk.cell 1 rfl
                      have HSS := Lib.hid hss
                      have HBM := Lib.hid hbk
                      have HB := Lib.hid hbw
                      clear hbw hbk hss hin
                      rcases hor.drop with ⟨⟨cap', l'⟩, hdr, hor2, hlen2⟩ | ⟨hdr, hor2⟩
                      · have hcap2 := hor2.cap
                        simp only at hcap2 hlen2
                        subst hcap2
                        have HO8 := Lib.hid hor2
                        have hfew := hor.ok.few
                        simp only at hfew
                        have hgl := HBM.out.lt
                        have HDR := Lib.hid hdr
                        obtain ⟨nl, hnl⟩ : ∃ nl, Hid (l'.length = nl) := ⟨_, Lib.hid rfl⟩
                        rw [hnl.out] at hlen2
                        have ea : IntKind.i64.wrap ((l.length : Int) - 1) = (nl : Int) := by rw [wrap_i64 (by omega) (by omega)]; omega
                        clear hor hor2 hdr
                        go_wp2_with fail
                        refine (Drop_any cap' A l.length c l ((i : Int) + 1) _ HSS.out.sl (Lib.hid rfl) cap' l' nl 0 HDR hnl).mono ?_
                        rintro e w7 ⟨A3, c3, rfl, s3, hb⟩
                        have hs := s3.bel ((Bel.refl w7).alloc (.cells #[.int .i64 cap', .slice A3 nl c3] 26))
                        have HS3 := Lib.hid (hs.down hgl)
                        have hbm := (HBM.out.bel hb).alloc (.cells #[.int .i64 cap', .slice A3 nl c3] 26)
                        have HB7 := (HB.out.trans hb).alloc (.cells #[.int .i64 cap', .slice A3 nl c3] 26)
                        have bG := Blk.new w7 26 #[.int .i64 cap', .slice A3 nl c3]
                        have p0 := bG.cell 0 (v := .int .i64 cap') rfl
                        have p1 := bG.cell 1 (v := .slice A3 nl c3) rfl
                        have q0 := hbm.cell 0 (v := .int .i64 cap') rfl
                        have q1 := hbm.cell 1 (v := .slice A l.length c) rfl
                        have f0 := hbm.frozen 0
                        have f1 := hbm.frozen 1
                        have ng : g ≠ w7.heap.size := by have := hb.size; omega
                        have ng' : w7.heap.size ≠ g := Ne.symm ng
                        have HB8 := Lib.hid ((hbm.set 0 (.int .i64 cap')).set 1 (.slice A3 nl c3))
                        have HS8 := Lib.hid (HS3.out.abv (((Abv.refl (g + 1) _).set (p := ⟨g, 0, none⟩) (Nat.lt_succ_self g) (.int .i64 cap')).set (p := ⟨g, 1, none⟩) (Nat.lt_succ_self g) (.slice A3 nl c3)))
                        have HW8 := Lib.hid ((HB7.setCell (p := ⟨g, 0, none⟩) hg0 (.int .i64 cap')).setCell (p := ⟨g, 1, none⟩) hg0 (.slice A3 nl c3))
                        clear s3 hs hbm HB7 bG hb hgl
                        go_wp2
                        go_roundw
                        case rel => exact ⟨i + 1, A3, c3, l', by simp, by rw [hnl.out], by omega, by rw [hnl.out]; exact HB8.out, HS8.out, by simpa using HO8.out, HW8.out⟩
                        case measure => simp [intOf]; omega
                      · have HO8 := Lib.hid hor2
                        have HDR := Lib.hid hdr
                        clear hor hor2 hdr
                        go_wp2_with fail
                        refine (Drop_any room A l.length c l ((i : Int) + 1) _ HSS.out.sl (Lib.hid rfl) 0 [] 0 3 HDR (Lib.hid rfl)).mono ?_
                        rintro e w7 ⟨A3, c3, rfl, s3, hb⟩
                        have HB8 := Lib.hid ((HBM.out.bel hb).alloc (.cells #[.int .i64 0, .slice A3 0 c3] 26))
                        have HS8 := Lib.hid ((HSS.out.bel hb).bel ((Bel.refl _).alloc (.cells #[.int .i64 0, .slice A3 0 c3] 26)))
                        have HW8 := Lib.hid ((HB.out.trans hb).alloc (.cells #[.int .i64 0, .slice A3 0 c3] 26))
                        clear s3 hb
                        go_wp2
                        go_roundw
                        case rel => exact ⟨i + 1, A, c, l, by simp, rfl, by omega, HB8.out, HS8.out, by simpa using HO8.out, HW8.out⟩
                        case measure => simp [intOf]; omega
            · have hi1 : i < K := by omega
              have hi2 : (i : Int) < K := by omega
              have i0 : 0 ≤ (i : Int) := by omega
              have ei : IntKind.i64.wrap ((i : Int) + 1) = (i : Int) + 1 := wrap_i64 (by omega) (by omega)
              obtain ⟨bw, ow, hB, hcw⟩ := (HAT.out.mono (IntR.mono _) hbw).int_cell (by rw [hK.out]; omega)
              obtain ⟨d0, hwp0⟩ := hcw i (by rw [hK.out]; exact hi1)
              obtain ⟨p, hp⟩ : ∃ p, ats.getD i 0 = p := ⟨_, rfl⟩
              rw [hp] at d0 hwp0
              have hwp := Lib.hid hwp0
              have hwi : Hid ((Lit.int .i64 ((i : Int) + 1)).wf = true) := Lib.hid (wf_i64 (by omega) (by omega))
              obtain ⟨⟨⟨cap', l'⟩, e'⟩, hput⟩ : ∃ x, Hid (putM ⟨room, l⟩ ⟨(i : Int) + 1, p, zeros n⟩ = x) := ⟨_, Lib.hid rfl⟩
              obtain ⟨nl, hnl⟩ : ∃ nl, Hid (l'.length = nl) := ⟨_, Lib.hid rfl⟩
              subst hB
              clear hcw hp hwp0 hin
              go_wp2_with fail
              have HB := hbw
              have HBM := Lib.hid hbk
              have HSS := Lib.hid hss
              have HOR := Lib.hid hor
              obtain ⟨W, hWW⟩ : ∃ W, W = wr := ⟨_, rfl⟩
              subst hWW
              have P0 := fun (w' : World) (h : Bel W w') => h.cell (HBM.out.cell 0 (v := .int .i64 room) rfl)
              have P1 := fun (w' : World) (h : Bel W w') => h.cell (HBM.out.cell 1 (v := .slice A l.length c) rfl)
              have P2 := fun (w' : World) (h : Bel W w') => h.cell d0
              clear d0 hbw hbk hss hor
              have SD : Bel W W.drew := (Bel.refl W).drew
              refine wp_region_T (fun w' => Bel W w') (fun _ => false) (by kernel_rfl) ?_
              refine wpAnyU_take (i := 0) (v := ?v0p) rfl (by kernel_rfl) (by kernel_rfl) (by kernel_rfl) (by kernel_rfl) (fun _ _ _ h => h) ?hy0p SD ?rest0p
              case hy0p => first | (refine Or.inl ⟨by rfl, ?_⟩; (intro w' hSw; go_simp) <;> with_reducible rfl) | (refine Or.inr ⟨by rfl, ?_⟩; with_reducible rfl)
              try simp only [List.getElem_toArray, List.getElem_cons_zero, List.getElem_cons_succ, Act.put, List.setIfInBounds_toArray, List.set_cons_zero, List.set_cons_succ]
              refine wpAnyU_take (i := 1) (v := ?v1p) rfl (by kernel_rfl) (by kernel_rfl) (by kernel_rfl) (by kernel_rfl) (fun _ _ _ h => h) ?hy1p SD ?rest1p
              case hy1p => first | (refine Or.inl ⟨by rfl, ?_⟩; (intro w' hSw; go_simp) <;> with_reducible rfl) | (refine Or.inr ⟨by rfl, ?_⟩; with_reducible rfl)
              try simp only [List.getElem_toArray, List.getElem_cons_zero, List.getElem_cons_succ, Act.put, List.setIfInBounds_toArray, List.set_cons_zero, List.set_cons_succ]
              refine wpAnyU_take (i := 2) (v := ?v2p) rfl (by kernel_rfl) (by kernel_rfl) (by kernel_rfl) (by kernel_rfl) (fun _ _ _ h => h) ?hy2p SD ?rest2p
              case hy2p => first | (refine Or.inl ⟨by rfl, ?_⟩; (intro w' hSw; go_simp) <;> with_reducible rfl) | (refine Or.inr ⟨by rfl, ?_⟩; with_reducible rfl)
              try simp only [List.getElem_toArray, List.getElem_cons_zero, List.getElem_cons_succ, Act.put, List.setIfInBounds_toArray, List.set_cons_zero, List.set_cons_succ]
              refine wpAnyU_take (i := 3) (v := ?v3p) rfl (by kernel_rfl) (by kernel_rfl) (by kernel_rfl) (by kernel_rfl) (fun _ _ _ h => h) ?hy3p SD ?rest3p
              case hy3p => first | (refine Or.inl ⟨by rfl, ?_⟩; (intro w' hSw; go_simp) <;> with_reducible rfl) | (refine Or.inr ⟨by rfl, ?_⟩; with_reducible rfl)
              try simp only [List.getElem_toArray, List.getElem_cons_zero, List.getElem_cons_succ, Act.put, List.setIfInBounds_toArray, List.set_cons_zero, List.set_cons_succ]
              refine wpAnyU_take (i := 4) (v := ?v4p) rfl (by kernel_rfl) (by kernel_rfl) (by kernel_rfl) (by kernel_rfl) (fun _ _ _ h => h) ?hy4p SD ?rest4p
              case hy4p => first | (refine Or.inl ⟨by rfl, ?_⟩; (intro w' hSw; go_simp) <;> with_reducible rfl) | (refine Or.inr ⟨by rfl, ?_⟩; with_reducible rfl)
              try simp only [List.getElem_toArray, List.getElem_cons_zero, List.getElem_cons_succ, Act.put, List.setIfInBounds_toArray, List.set_cons_zero, List.set_cons_succ]
              refine wpAnyU_take (i := 5) (v := ?v5p) rfl (by kernel_rfl) (by kernel_rfl) (by kernel_rfl) (by kernel_rfl) (fun _ _ _ h => h) ?hy5p SD ?rest5p
              case hy5p => first | (refine Or.inl ⟨by rfl, ?_⟩; (intro w' hSw; go_simp) <;> with_reducible rfl) | (refine Or.inr ⟨by rfl, ?_⟩; with_reducible rfl)
              try simp only [List.getElem_toArray, List.getElem_cons_zero, List.getElem_cons_succ, Act.put, List.setIfInBounds_toArray, List.set_cons_zero, List.set_cons_succ]
              refine wpAnyU_take (i := 6) (v := ?v6p) rfl (by kernel_rfl) (by kernel_rfl) (by kernel_rfl) (by kernel_rfl) (fun _ _ _ h => h) ?hy6p SD ?rest6p
              case hy6p => first | (refine Or.inl ⟨by rfl, ?_⟩; (intro w' hSw; go_simp) <;> with_reducible rfl) | (refine Or.inr ⟨by rfl, ?_⟩; with_reducible rfl)
              try simp only [List.getElem_toArray, List.getElem_cons_zero, List.getElem_cons_succ, Act.put, List.setIfInBounds_toArray, List.set_cons_zero, List.set_cons_succ]
              refine wpAnyU_take (i := 7) (v := ?v7p) rfl (by kernel_rfl) (by kernel_rfl) (by kernel_rfl) (by kernel_rfl) (fun _ _ _ h => h) ?hy7p SD ?rest7p
              case hy7p => first | (refine Or.inl ⟨by rfl, ?_⟩; (intro w' hSw; go_simp) <;> with_reducible rfl) | (refine Or.inr ⟨by rfl, ?_⟩; with_reducible rfl)
              try simp only [List.getElem_toArray, List.getElem_cons_zero, List.getElem_cons_succ, Act.put, List.setIfInBounds_toArray, List.set_cons_zero, List.set_cons_succ]
              refine wpAnyT_two (i := 8) (j := 13) (by kernel_rfl) rfl rfl (fun K hK => ?_) (fun K hK => ?_)
              · go_simp
                refine hK.out _ _ (fun _ => ((Bel.refl W).alloc _).drew) ?_
                clear hK K
                try simp only [List.getElem_toArray, List.getElem_cons_zero, List.getElem_cons_succ, Act.put, List.setIfInBounds_toArray, List.set_cons_zero, List.set_cons_succ]
                refine wpAnyT_two (i := 9) (j := 13) (by kernel_rfl) rfl rfl (fun K hK => ?_) (fun K hK => ?_)
                · go_simp
                  go_at_call 11
                  refine (Put_any room A l.length c l ((i : Int) + 1) p _ n n (zeros n) _ (HSS.out.sl.mono BlkR.mono (((Bel.refl W).alloc _).drew)) (Lib.hid rfl) ((made_sl hn4 W).mono (IntR.mono _) ((Bel.refl _).drew)) (Lib.hid (zeros_length n)) hwi hwp cap' l' nl e' hput hnl).mono ?_
                  rintro e w3 ⟨A3, c3, rfl, s3, hb3⟩
                  have hWc : Bel W w3 := (((Bel.refl W).alloc _).drew).trans hb3
                  have hsz3 := hb3.size
                  have hgl := HBM.out.lt
                  have bG2 := Blk.new w3 26 #[.int .i64 cap', .slice A3 nl c3]
                  have hs3 := s3.bel ((Bel.refl w3).alloc (.cells #[.int .i64 cap', .slice A3 nl c3] 26))
                  have HWW := hWc.alloc (.cells #[.int .i64 cap', .slice A3 nl c3] 26)
                  refine hK.out _ _ (fun _ => hWc) ?_
                  clear hK K
                  try simp only [List.getElem_toArray, List.getElem_cons_zero, List.getElem_cons_succ, Act.put, List.setIfInBounds_toArray, List.set_cons_zero, List.set_cons_succ]
                  refine wpAnyU_take (i := 10) (v := ?v10pa) rfl (by kernel_rfl) (by kernel_rfl) (by kernel_rfl) (by kernel_rfl) (fun _ _ _ h => h) ?hy10pa hWc ?rest10pa
                  case hy10pa => first | (refine Or.inl ⟨by rfl, ?_⟩; (intro w' hSw; go_simp) <;> with_reducible rfl) | (refine Or.inr ⟨by rfl, ?_⟩; with_reducible rfl)
                  try simp only [List.getElem_toArray, List.getElem_cons_zero, List.getElem_cons_succ, Act.put, List.setIfInBounds_toArray, List.set_cons_zero, List.set_cons_succ]
                  refine wpAnyU_take (i := 11) (v := ?v11pa) rfl (by kernel_rfl) (by kernel_rfl) (by kernel_rfl) (by kernel_rfl) (fun _ _ _ h => h) ?hy11pa hWc ?rest11pa
                  case hy11pa => first | (refine Or.inl ⟨by rfl, ?_⟩; (intro w' hSw; go_simp) <;> with_reducible rfl) | (refine Or.inr ⟨by rfl, ?_⟩; with_reducible rfl)
                  try simp only [List.getElem_toArray, List.getElem_cons_zero, List.getElem_cons_succ, Act.put, List.setIfInBounds_toArray, List.set_cons_zero, List.set_cons_succ]
                  refine wpAnyU_take (i := 12) (v := ?v12pa) rfl (by kernel_rfl) (by kernel_rfl) (by kernel_rfl) (by kernel_rfl) (fun _ _ _ h => h) ?hy12pa hWc ?rest12pa
                  case hy12pa => first | (refine Or.inl ⟨by rfl, ?_⟩; (intro w' hSw; go_simp) <;> with_reducible rfl) | (refine Or.inr ⟨by rfl, ?_⟩; with_reducible rfl)
                  try simp only [List.getElem_toArray, List.getElem_cons_zero, List.getElem_cons_succ, Act.put, List.setIfInBounds_toArray, List.set_cons_zero, List.set_cons_succ]
                  refine wpAnyT_one (i := 13) (by kernel_rfl) rfl (fun K hK => ?_)
                  go_simp
                  refine hK.out _ _ (fun _ => hWc.alloc _) ?_
                  clear hK K
                  try simp only [List.getElem_toArray, List.getElem_cons_zero, List.getElem_cons_succ, Act.put, List.setIfInBounds_toArray, List.set_cons_zero, List.set_cons_succ]
                  refine wpAnyT_one (i := 14) (by kernel_rfl) rfl (fun K hK => ?_)
                  go_simp
                  refine hK.out _ _ (fun _ => hWc.alloc _) ?_
                  clear hK K
                  try simp only [List.getElem_toArray, List.getElem_cons_zero, List.getElem_cons_succ, Act.put, List.setIfInBounds_toArray, List.set_cons_zero, List.set_cons_succ]
                  refine wpAnyU_take (i := 15) (v := ?v15pa) rfl (by kernel_rfl) (by kernel_rfl) (by kernel_rfl) (by kernel_rfl) (fun _ _ _ h => h) ?hy15pa HWW ?rest15pa
                  case hy15pa => first | (refine Or.inl ⟨by rfl, ?_⟩; (intro w' hSw; go_simp) <;> with_reducible rfl) | (refine Or.inr ⟨by rfl, ?_⟩; with_reducible rfl)
                  try simp only [List.getElem_toArray, List.getElem_cons_zero, List.getElem_cons_succ, Act.put, List.setIfInBounds_toArray, List.set_cons_zero, List.set_cons_succ]
                  refine wpAnyT_done (by kernel_rfl) ?_ _
                  refine NoPanic.normal ?_
                  have HS3 := Lib.hid (hs3.down (Nat.le_trans hgl (((Bel.refl W).alloc _).drew).size))
                  have HBG := Lib.hid bG2
                  have HWF := Lib.hid HWW
                  clear HWW
                  clear hs3 bG2 hWc s3 hb3 hsz3 SD
                  generalize w3.alloc (.cells #[.int .i64 cap', .slice A3 nl c3] 26) = Wf at *
                  generalize w3.heap.size = G at *
                  have p0 := HBG.out.cell 0 rfl
                  have p1 := HBG.out.cell 1 rfl
                  by_cases he0 : e' = 0
                  · subst he0
                    have tt : ((0 : Int) == 0) = true := rfl
                    obtain ⟨hord2, hlen2⟩ := OrdM.put (room := room) (m := ⟨room, l⟩) (m' := ⟨cap', l'⟩) HOR.out (by omega) hput.out
                    have hcap2 := hord2.cap
                    simp only at hcap2 hlen2
                    subst hcap2
                    have hbg := HBM.out.bel HWF.out
                    have q0 : Wf.cell? ⟨g, 0, none⟩ = some (.int .i64 cap') := hbg.cell 0 rfl
                    have q1 : Wf.cell? ⟨g, 1, none⟩ = some (.slice A l.length c) := hbg.cell 1 rfl
                    have f0 := hbg.frozen 0
                    have f1 := hbg.frozen 1
                    have HB8 := Lib.hid ((hbg.set 0 (.int .i64 cap')).set 1 (.slice A3 nl c3))
                    have HS8 := Lib.hid (HS3.out.abv (((Abv.refl (g + 1) Wf).set (p := ⟨g, 0, none⟩) (Nat.lt_succ_self g) (.int .i64 cap')).set (p := ⟨g, 1, none⟩) (Nat.lt_succ_self g) (.slice A3 nl c3)))
                    have HW8 := Lib.hid (((HB.trans HWF.out).setCell (p := ⟨g, 0, none⟩) hg0 (.int .i64 cap')).setCell (p := ⟨g, 1, none⟩) hg0 (.slice A3 nl c3))
                    have HO8 := Lib.hid hord2
                    have hfew := hord2.ok.few
                    simp only [hnl.out] at hlen2 hfew
                    have HNL : Hid (l'.length = nl) := hnl
                    obtain rfl : nl = l.length + 1 := hlen2
                    have ea : IntKind.i64.wrap ((l.length : Int) + 1) = (l.length : Int) + 1 := wrap_i64 (by omega) (by omega)
                    clear hord2 hbg
                    go_wp2
                    go_roundw
                    case rel => exact ⟨i + 1, A3, c3, l', by simp, by rw [HNL.out]; simp, by omega, by rw [HNL.out]; exact HB8.out, HS8.out, by simpa using HO8.out, HW8.out⟩
                    case measure => simp [intOf]; omega
                  · have tt : (e' == 0) = false := by simpa using he0
                    have HB8 := Lib.hid (HBM.out.bel HWF.out)
                    have HS8 := Lib.hid (HSS.out.bel HWF.out)
                    have HW8 := Lib.hid (HB.trans HWF.out)
                    have HO8 := Lib.hid (HOR.out.up (hi' := ((i + 1 : Nat) : Int)) (by omega))
                    clear he0
                    go_wp2
                    go_roundw
                    case rel => exact ⟨i + 1, A, c, l, by simp, rfl, by omega, HB8.out, HS8.out, HO8.out, HW8.out⟩
                    case measure => simp [intOf]; omega
                · go_simp
                  refine hK.out _ _ (fun _ => (((Bel.refl W).alloc _).alloc _).drew) ?_
                  clear hK K
                  try simp only [List.getElem_toArray, List.getElem_cons_zero, List.getElem_cons_succ, Act.put, List.setIfInBounds_toArray, List.set_cons_zero, List.set_cons_succ]
                  refine wpAnyT_one (i := 9) (by kernel_rfl) rfl (fun K hK => ?_)
                  go_simp
                  go_at_call 11
                  refine (Put_any room A l.length c l ((i : Int) + 1) p _ n n (zeros n) _ (HSS.out.sl.mono BlkR.mono ((((Bel.refl W).alloc _).alloc _).drew)) (Lib.hid rfl) ((made_sl hn4 W).mono (IntR.mono _) (((Bel.refl _).alloc (.cells #[.int .i64 0, .slice none 0 0] 26)).drew)) (Lib.hid (zeros_length n)) hwi hwp cap' l' nl e' hput hnl).mono ?_
                  rintro e w3 ⟨A3, c3, rfl, s3, hb3⟩
                  have hWc : Bel W w3 := ((((Bel.refl W).alloc _).alloc _).drew).trans hb3
                  have hsz3 := hb3.size
                  have hgl := HBM.out.lt
                  have bG : Blk w3 (W.heap.size + 1) 26 #[.int .i64 0, .slice none 0 0] := by
                    have := ((Blk.new (W.alloc (.cells (u64s (zeros n)).toArray 40)) 26 #[.int .i64 0, .slice none 0 0]).bel ((Bel.refl _).drew)).bel hb3
                    simpa using this
                  have d0 := bG.cell 0 (v := .int .i64 0) rfl
                  have d1 := bG.cell 1 (v := .slice none 0 0) rfl
                  have z0 := bG.frozen 0
                  have z1 := bG.frozen 1
                  have bG2 := (bG.set 0 (.int .i64 cap')).set 1 (.slice A3 nl c3)
                  have hs3 := s3.abv (((Abv.refl _ w3).set (p := ⟨W.heap.size + 1, 0, none⟩) (by simp; try omega) (.int .i64 cap')).set (p := ⟨W.heap.size + 1, 1, none⟩) (by simp; try omega) (.slice A3 nl c3))
                  have HWW := (hWc.setCell (p := ⟨W.heap.size + 1, 0, none⟩) (by simp only; omega) (.int .i64 cap')).setCell (p := ⟨W.heap.size + 1, 1, none⟩) (by simp only; omega) (.slice A3 nl c3)

                  refine hK.out _ _ (fun _ => hWc) ?_
                  clear hK K
                  try simp only [List.getElem_toArray, List.getElem_cons_zero, List.getElem_cons_succ, Act.put, List.setIfInBounds_toArray, List.set_cons_zero, List.set_cons_succ]
                  refine wpAnyU_take (i := 10) (v := ?v10pb) rfl (by kernel_rfl) (by kernel_rfl) (by kernel_rfl) (by kernel_rfl) (fun _ _ _ h => h) ?hy10pb hWc ?rest10pb
                  case hy10pb => first | (refine Or.inl ⟨by rfl, ?_⟩; (intro w' hSw; go_simp) <;> with_reducible rfl) | (refine Or.inr ⟨by rfl, ?_⟩; with_reducible rfl)
                  try simp only [List.getElem_toArray, List.getElem_cons_zero, List.getElem_cons_succ, Act.put, List.setIfInBounds_toArray, List.set_cons_zero, List.set_cons_succ]
                  refine wpAnyU_take (i := 11) (v := ?v11pb) rfl (by kernel_rfl) (by kernel_rfl) (by kernel_rfl) (by kernel_rfl) (fun _ _ _ h => h) ?hy11pb hWc ?rest11pb
                  case hy11pb => first | (refine Or.inl ⟨by rfl, ?_⟩; (intro w' hSw; go_simp) <;> with_reducible rfl) | (refine Or.inr ⟨by rfl, ?_⟩; with_reducible rfl)
                  try simp only [List.getElem_toArray, List.getElem_cons_zero, List.getElem_cons_succ, Act.put, List.setIfInBounds_toArray, List.set_cons_zero, List.set_cons_succ]
                  refine wpAnyU_take (i := 12) (v := ?v12pb) rfl (by kernel_rfl) (by kernel_rfl) (by kernel_rfl) (by kernel_rfl) (fun _ _ _ h => h) ?hy12pb hWc ?rest12pb
                  case hy12pb => first | (refine Or.inl ⟨by rfl, ?_⟩; (intro w' hSw; go_simp) <;> with_reducible rfl) | (refine Or.inr ⟨by rfl, ?_⟩; with_reducible rfl)
                  try simp only [List.getElem_toArray, List.getElem_cons_zero, List.getElem_cons_succ, Act.put, List.setIfInBounds_toArray, List.set_cons_zero, List.set_cons_succ]
                  refine wpAnyT_one (i := 14) (by kernel_rfl) rfl (fun K hK => ?_)
                  go_simp
                  refine hK.out _ _ (fun _ => HWW) ?_
                  clear hK K
                  try simp only [List.getElem_toArray, List.getElem_cons_zero, List.getElem_cons_succ, Act.put, List.setIfInBounds_toArray, List.set_cons_zero, List.set_cons_succ]
                  refine wpAnyU_take (i := 15) (v := ?v15pb) rfl (by kernel_rfl) (by kernel_rfl) (by kernel_rfl) (by kernel_rfl) (fun _ _ _ h => h) ?hy15pb HWW ?rest15pb
                  case hy15pb => first | (refine Or.inl ⟨by rfl, ?_⟩; (intro w' hSw; go_simp) <;> with_reducible rfl) | (refine Or.inr ⟨by rfl, ?_⟩; with_reducible rfl)
                  try simp only [List.getElem_toArray, List.getElem_cons_zero, List.getElem_cons_succ, Act.put, List.setIfInBounds_toArray, List.set_cons_zero, List.set_cons_succ]
                  refine wpAnyT_done (by kernel_rfl) ?_ _
                  refine NoPanic.normal ?_
                  have HS3 := Lib.hid (hs3.down (Nat.le_trans hgl ((((Bel.refl W).alloc _).alloc _).drew).size))
                  have HBG := Lib.hid bG2
                  have HWF := Lib.hid HWW
                  clear HWW
                  clear d0 d1 z0 z1 bG
                  clear hs3 bG2 hWc s3 hb3 hsz3 SD
                  generalize (w3.setCell ⟨W.heap.size + 1, 0, none⟩ (.int .i64 cap')).setCell ⟨W.heap.size + 1, 1, none⟩ (.slice A3 nl c3) = Wf at *
                  generalize W.heap.size + 1 = G at *
                  have p0 := HBG.out.cell 0 rfl
                  have p1 := HBG.out.cell 1 rfl
                  by_cases he0 : e' = 0
                  · subst he0
                    have tt : ((0 : Int) == 0) = true := rfl
                    obtain ⟨hord2, hlen2⟩ := OrdM.put (room := room) (m := ⟨room, l⟩) (m' := ⟨cap', l'⟩) HOR.out (by omega) hput.out
                    have hcap2 := hord2.cap
                    simp only at hcap2 hlen2
                    subst hcap2
                    have hbg := HBM.out.bel HWF.out
                    have q0 : Wf.cell? ⟨g, 0, none⟩ = some (.int .i64 cap') := hbg.cell 0 rfl
                    have q1 : Wf.cell? ⟨g, 1, none⟩ = some (.slice A l.length c) := hbg.cell 1 rfl
                    have f0 := hbg.frozen 0
                    have f1 := hbg.frozen 1
                    have HB8 := Lib.hid ((hbg.set 0 (.int .i64 cap')).set 1 (.slice A3 nl c3))
                    have HS8 := Lib.hid (HS3.out.abv (((Abv.refl (g + 1) Wf).set (p := ⟨g, 0, none⟩) (Nat.lt_succ_self g) (.int .i64 cap')).set (p := ⟨g, 1, none⟩) (Nat.lt_succ_self g) (.slice A3 nl c3)))
                    have HW8 := Lib.hid (((HB.trans HWF.out).setCell (p := ⟨g, 0, none⟩) hg0 (.int .i64 cap')).setCell (p := ⟨g, 1, none⟩) hg0 (.slice A3 nl c3))
                    have HO8 := Lib.hid hord2
                    have hfew := hord2.ok.few
                    simp only [hnl.out] at hlen2 hfew
                    have HNL : Hid (l'.length = nl) := hnl
                    obtain rfl : nl = l.length + 1 := hlen2
                    have ea : IntKind.i64.wrap ((l.length : Int) + 1) = (l.length : Int) + 1 := wrap_i64 (by omega) (by omega)
                    clear hord2 hbg
                    go_wp2
                    go_roundw
                    case rel => exact ⟨i + 1, A3, c3, l', by simp, by rw [HNL.out]; simp, by omega, by rw [HNL.out]; exact HB8.out, HS8.out, by simpa using HO8.out, HW8.out⟩
                    case measure => simp [intOf]; omega
                  · have tt : (e' == 0) = false := by simpa using he0
                    have HB8 := Lib.hid (HBM.out.bel HWF.out)
                    have HS8 := Lib.hid (HSS.out.bel HWF.out)
                    have HW8 := Lib.hid (HB.trans HWF.out)
                    have HO8 := Lib.hid (HOR.out.up (hi' := ((i + 1 : Nat) : Int)) (by omega))
                    clear he0
                    go_wp2
                    go_roundw
                    case rel => exact ⟨i + 1, A, c, l, by simp, rfl, by omega, HB8.out, HS8.out, HO8.out, HW8.out⟩
                    case measure => simp [intOf]; omega
              · go_simp
                refine hK.out _ _ (fun _ => ((Bel.refl W).alloc _).drew) ?_
                clear hK K
                try simp only [List.getElem_toArray, List.getElem_cons_zero, List.getElem_cons_succ, Act.put, List.setIfInBounds_toArray, List.set_cons_zero, List.set_cons_succ]
                refine wpAnyT_one (i := 8) (by kernel_rfl) rfl (fun K hK => ?_)
                go_simp
                refine hK.out _ _ (fun _ => (((Bel.refl W).alloc _).alloc _).drew) ?_
                clear hK K
                try simp only [List.getElem_toArray, List.getElem_cons_zero, List.getElem_cons_succ, Act.put, List.setIfInBounds_toArray, List.set_cons_zero, List.set_cons_succ]
                refine wpAnyT_one (i := 9) (by kernel_rfl) rfl (fun K hK => ?_)
                go_simp
                go_at_call 11
                refine (Put_any room A l.length c l ((i : Int) + 1) p _ n n (zeros n) _ (HSS.out.sl.mono BlkR.mono ((((Bel.refl W).alloc _).alloc _).drew)) (Lib.hid rfl) (by have := (made_sl hn4 (W.alloc (.cells #[.int .i64 0, .slice none 0 0] 26))).mono (IntR.mono _) ((Bel.refl _).drew); simpa using this) (Lib.hid (zeros_length n)) hwi hwp cap' l' nl e' hput hnl).mono ?_
                rintro e w3 ⟨A3, c3, rfl, s3, hb3⟩
                have hWc : Bel W w3 := ((((Bel.refl W).alloc _).alloc _).drew).trans hb3
                have hsz3 := hb3.size
                have hgl := HBM.out.lt
                have bG : Blk w3 (W.heap.size) 26 #[.int .i64 0, .slice none 0 0] := by
                  have := (((Blk.new W 26 #[.int .i64 0, .slice none 0 0]).alloc (.cells (u64s (zeros n)).toArray 40)).bel ((Bel.refl _).drew)).bel hb3
                  simpa using this
                have d0 := bG.cell 0 (v := .int .i64 0) rfl
                have d1 := bG.cell 1 (v := .slice none 0 0) rfl
                have z0 := bG.frozen 0
                have z1 := bG.frozen 1
                have bG2 := (bG.set 0 (.int .i64 cap')).set 1 (.slice A3 nl c3)
                have hs3 := s3.abv (((Abv.refl _ w3).set (p := ⟨W.heap.size, 0, none⟩) (by simp; try omega) (.int .i64 cap')).set (p := ⟨W.heap.size, 1, none⟩) (by simp; try omega) (.slice A3 nl c3))
                have HWW := (hWc.setCell (p := ⟨W.heap.size, 0, none⟩) (by simp only; omega) (.int .i64 cap')).setCell (p := ⟨W.heap.size, 1, none⟩) (by simp only; omega) (.slice A3 nl c3)

                refine hK.out _ _ (fun _ => hWc) ?_
                clear hK K
                try simp only [List.getElem_toArray, List.getElem_cons_zero, List.getElem_cons_succ, Act.put, List.setIfInBounds_toArray, List.set_cons_zero, List.set_cons_succ]
                refine wpAnyU_take (i := 10) (v := ?v10pc) rfl (by kernel_rfl) (by kernel_rfl) (by kernel_rfl) (by kernel_rfl) (fun _ _ _ h => h) ?hy10pc hWc ?rest10pc
                case hy10pc => first | (refine Or.inl ⟨by rfl, ?_⟩; (intro w' hSw; go_simp) <;> with_reducible rfl) | (refine Or.inr ⟨by rfl, ?_⟩; with_reducible rfl)
                try simp only [List.getElem_toArray, List.getElem_cons_zero, List.getElem_cons_succ, Act.put, List.setIfInBounds_toArray, List.set_cons_zero, List.set_cons_succ]
                refine wpAnyU_take (i := 11) (v := ?v11pc) rfl (by kernel_rfl) (by kernel_rfl) (by kernel_rfl) (by kernel_rfl) (fun _ _ _ h => h) ?hy11pc hWc ?rest11pc
                case hy11pc => first | (refine Or.inl ⟨by rfl, ?_⟩; (intro w' hSw; go_simp) <;> with_reducible rfl) | (refine Or.inr ⟨by rfl, ?_⟩; with_reducible rfl)
                try simp only [List.getElem_toArray, List.getElem_cons_zero, List.getElem_cons_succ, Act.put, List.setIfInBounds_toArray, List.set_cons_zero, List.set_cons_succ]
                refine wpAnyU_take (i := 12) (v := ?v12pc) rfl (by kernel_rfl) (by kernel_rfl) (by kernel_rfl) (by kernel_rfl) (fun _ _ _ h => h) ?hy12pc hWc ?rest12pc
                case hy12pc => first | (refine Or.inl ⟨by rfl, ?_⟩; (intro w' hSw; go_simp) <;> with_reducible rfl) | (refine Or.inr ⟨by rfl, ?_⟩; with_reducible rfl)
                try simp only [List.getElem_toArray, List.getElem_cons_zero, List.getElem_cons_succ, Act.put, List.setIfInBounds_toArray, List.set_cons_zero, List.set_cons_succ]
                refine wpAnyT_one (i := 14) (by kernel_rfl) rfl (fun K hK => ?_)
                go_simp
                refine hK.out _ _ (fun _ => HWW) ?_
                clear hK K
                try simp only [List.getElem_toArray, List.getElem_cons_zero, List.getElem_cons_succ, Act.put, List.setIfInBounds_toArray, List.set_cons_zero, List.set_cons_succ]
                refine wpAnyU_take (i := 15) (v := ?v15pc) rfl (by kernel_rfl) (by kernel_rfl) (by kernel_rfl) (by kernel_rfl) (fun _ _ _ h => h) ?hy15pc HWW ?rest15pc
                case hy15pc => first | (refine Or.inl ⟨by rfl, ?_⟩; (intro w' hSw; go_simp) <;> with_reducible rfl) | (refine Or.inr ⟨by rfl, ?_⟩; with_reducible rfl)
                try simp only [List.getElem_toArray, List.getElem_cons_zero, List.getElem_cons_succ, Act.put, List.setIfInBounds_toArray, List.set_cons_zero, List.set_cons_succ]
                refine wpAnyT_done (by kernel_rfl) ?_ _
                refine NoPanic.normal ?_
                have HS3 := Lib.hid (hs3.down (Nat.le_trans hgl ((((Bel.refl W).alloc _).alloc _).drew).size))
                have HBG := Lib.hid bG2
                have HWF := Lib.hid HWW
                clear HWW
                clear d0 d1 z0 z1 bG
                clear hs3 bG2 hWc s3 hb3 hsz3 SD
                generalize (w3.setCell ⟨W.heap.size, 0, none⟩ (.int .i64 cap')).setCell ⟨W.heap.size, 1, none⟩ (.slice A3 nl c3) = Wf at *
                generalize W.heap.size = G at *
                have p0 := HBG.out.cell 0 rfl
                have p1 := HBG.out.cell 1 rfl
                by_cases he0 : e' = 0
                · subst he0
                  have tt : ((0 : Int) == 0) = true := rfl
                  obtain ⟨hord2, hlen2⟩ := OrdM.put (room := room) (m := ⟨room, l⟩) (m' := ⟨cap', l'⟩) HOR.out (by omega) hput.out
                  have hcap2 := hord2.cap
                  simp only at hcap2 hlen2
                  subst hcap2
                  have hbg := HBM.out.bel HWF.out
                  have q0 : Wf.cell? ⟨g, 0, none⟩ = some (.int .i64 cap') := hbg.cell 0 rfl
                  have q1 : Wf.cell? ⟨g, 1, none⟩ = some (.slice A l.length c) := hbg.cell 1 rfl
                  have f0 := hbg.frozen 0
                  have f1 := hbg.frozen 1
                  have HB8 := Lib.hid ((hbg.set 0 (.int .i64 cap')).set 1 (.slice A3 nl c3))
                  have HS8 := Lib.hid (HS3.out.abv (((Abv.refl (g + 1) Wf).set (p := ⟨g, 0, none⟩) (Nat.lt_succ_self g) (.int .i64 cap')).set (p := ⟨g, 1, none⟩) (Nat.lt_succ_self g) (.slice A3 nl c3)))
                  have HW8 := Lib.hid (((HB.trans HWF.out).setCell (p := ⟨g, 0, none⟩) hg0 (.int .i64 cap')).setCell (p := ⟨g, 1, none⟩) hg0 (.slice A3 nl c3))
                  have HO8 := Lib.hid hord2
                  have hfew := hord2.ok.few
                  simp only [hnl.out] at hlen2 hfew
                  have HNL : Hid (l'.length = nl) := hnl
                  obtain rfl : nl = l.length + 1 := hlen2
                  have ea : IntKind.i64.wrap ((l.length : Int) + 1) = (l.length : Int) + 1 := wrap_i64 (by omega) (by omega)
                  clear hord2 hbg
                  go_wp2
                  go_roundw
                  case rel => exact ⟨i + 1, A3, c3, l', by simp, by rw [HNL.out]; simp, by omega, by rw [HNL.out]; exact HB8.out, HS8.out, by simpa using HO8.out, HW8.out⟩
                  case measure => simp [intOf]; omega
                · have tt : (e' == 0) = false := by simpa using he0
                  have HB8 := Lib.hid (HBM.out.bel HWF.out)
                  have HS8 := Lib.hid (HSS.out.bel HWF.out)
                  have HW8 := Lib.hid (HB.trans HWF.out)
                  have HO8 := Lib.hid (HOR.out.up (hi' := ((i + 1 : Nat) : Int)) (by omega))
                  clear he0
                  go_wp2
                  go_roundw
                  case rel => exact ⟨i + 1, A, c, l, by simp, rfl, by omega, HB8.out, HS8.out, HO8.out, HW8.out⟩
                  case measure => simp [intOf]; omega
  · have hC : newC room = 0 := if_neg hroom
    have hE : newE room = 1 := if_neg hroom
    clear hroom
    go_enter Try.func3, Try.ntmps3
    go_wp2_with fail
    refine (awake13 _).mono ?_
    rintro e w1 ⟨rfl, hb1⟩
    go_wp2_with fail
    refine (New_any room _).mono ?_
    rintro e w2 ⟨rfl, hb2⟩
    rw [hC, hE]
    have HBW := (hb1.trans hb2).alloc (.cells #[.int .i64 0, .slice none 0 0] 26)
    go_wp2_with fail
    go_ret
    exact ⟨by first | rfl | simp, HBW⟩
end Go.Proofs.Ytegdnmlpoglfeaa
