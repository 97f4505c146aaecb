/- The walk of ArenaGap. -/
import Derived.Test.YtegdnmlpoglfeaaArLaw3
set_option linter.unusedVariables false
set_option linter.unusedSimpArgs false
namespace Go.Proofs.Ytegdnmlpoglfeaa
open Go.RowKit

set_option maxRecDepth 100000 in
set_option maxHeartbeats 8000000 in
theorem ArenaGap_walk (C0 : Array Value) (m : MemD) (n place : Int) (w : World) (r0 : MemR w C0.toList m) (wf1 : (Lit.int .i64 n).wf = true) (wf2 : (Lit.int .i64 place).wf = true) :
    Calls Try.prog 4 #[.agg C0, .int .i64 n, .int .i64 place] w fun e w' => e = .returned (.bool true) ∧ Bel w w' := by
  obtain ⟨cap, l⟩ := m
  obtain ⟨A, c, hcs, hs, hwf0⟩ := r0
  obtain rfl : C0 = #[.int .i64 cap, .slice A l.length c] := Array.toList_inj.1 hcs
  obtain ⟨nn, hn⟩ : ∃ nn, Hid (l.length = nn) := ⟨_, Lib.hid rfl⟩
  rw [hn.out]
  have bM := Blk.new w 26 #[.int .i64 cap, .slice A nn c]
  have q0 := bM.cell 0 (v := .int .i64 cap) rfl
  have q1 := bM.cell 1 (v := .slice A nn c) rfl
  have HBM := Lib.hid bM
  have HBW := Lib.hid ((Bel.refl w).alloc (.cells #[.int .i64 cap, .slice A nn c] 26))
  have HS := Lib.hid (hs.mono BlkR.mono HBW.out)
  obtain ⟨fb, hfb⟩ : ∃ fb, Hid (fewM ⟨cap, l⟩ = fb) := ⟨_, Lib.hid rfl⟩
  clear hs bM hcs
  go_enter Try.func4, Try.ntmps4
  go_wp2_with fail
  refine (awake13 _).mono ?_
  rintro e w1 ⟨rfl, hb⟩
  have HBW := Lib.hid (HBW.out.trans hb)
  have q0 := hb.cell q0
  have q1 := hb.cell q1
  have HBM := Lib.hid (HBM.out.bel hb)
  have HS := Lib.hid (HS.out.mono BlkR.mono hb)
  clear hb
  obtain ⟨g, hg⟩ : ∃ g, w.heap.size = g := ⟨_, rfl⟩
  have hg0 : w.heap.size ≤ g := by omega
  rw [hg] at q0 q1 HBM ⊢
  clear hg
  go_wp2_with fail
  refine (fewM_any cap A nn c l fb _ HS.out hn hfb).mono ?_
  rintro e w2 ⟨rfl, hb⟩
  have HBW := Lib.hid (HBW.out.trans hb)
  have q0 := hb.cell q0
  have q1 := hb.cell q1
  have HBM := Lib.hid (HBM.out.bel hb)
  have HS := Lib.hid (HS.out.mono BlkR.mono hb)
  clear hb
  cases fb
  · go_wp2_with fail
    go_ret
    exact ⟨by first | rfl | simp, HBW.out⟩
  · by_cases h1 : n < 1
    · go_wp2_with fail
      go_ret
      exact ⟨by first | rfl | simp, HBW.out⟩
    · have h1' : ¬ n < 1 := h1
      by_cases h2 : 1100 < n
      · go_wp2_with fail
        go_ret
        exact ⟨by first | rfl | simp, HBW.out⟩
      · have h2' : ¬ 1100 < n := h2
        obtain ⟨mb, hmb⟩ : ∃ mb, Hid (mayM ⟨cap, l⟩ = mb) := ⟨_, Lib.hid rfl⟩
        go_wp2_with fail
        refine (May_any cap A nn c l mb _ HS.out hn hmb).mono ?_
        rintro e w3 ⟨rfl, hb⟩
        have HBW := Lib.hid (HBW.out.trans hb)
        have q0 := hb.cell q0
        have q1 := hb.cell q1
        have HBM := Lib.hid (HBM.out.bel hb)
        have HS := Lib.hid (HS.out.mono BlkR.mono hb)
        clear hb
        cases mb
        · go_wp2_with fail
          go_ret
          exact ⟨by first | rfl | simp, HBW.out⟩
        · have HOK : Hid (Ok ⟨cap, l⟩) := Lib.hid (mayM_iff.1 hmb.out)
          obtain ⟨n, rfl⟩ : ∃ N : Nat, n = N := ⟨n.toNat, by omega⟩
          have hn4 : n ≤ 4096 := by omega
          have hm := make_words n hn4
          have hwfb : Hid ((Lit.int .i64 1000000007).wf = true) := Lib.hid (by kernel_rfl)
          obtain ⟨⟨⟨cap', l'⟩, e'⟩, hput⟩ : ∃ p, Hid (putM ⟨cap, l⟩ ⟨1000000007, place, zeros n⟩ = p) := ⟨_, Lib.hid rfl⟩
          obtain ⟨nl, hnl⟩ : ∃ nl, Hid (l'.length = nl) := ⟨_, Lib.hid rfl⟩
          rcases findM_cases HOK.out (n := n) (by omega) with hcase | hcase
          · obtain ⟨i, hi, hf, hfit, hfirst⟩ := hcase
            obtain ⟨a, ha⟩ : ∃ a, prevEnd l i = a := ⟨_, rfl⟩
            simp only [ha] at hf hfit
            have HPF : Hid (e' = 0 → a ≤ place) := Lib.hid (fun h => by
              obtain ⟨x, h1, h2⟩ := put_find HOK.out (b := ⟨1000000007, place, zeros n⟩) (by unfold zeros; rw [ne_eq, List.replicate_eq_nil_iff]; omega) (by rw [hput.out]; exact h)
              simp only [zeros_length, hf, Prod.mk.injEq, and_true] at h1
              simp only at h2
              omega)
            have hpr := (HOK.out.prev i hi).1
            have hnx := (HOK.out.next hi).2
            have hcap := HOK.out.cap1
            simp only [ha] at hpr hnx hcap
            have HGAP : Hid (∀ k : Nat, k < n → fetchM ⟨cap, l⟩ (a + k) = (0, 0, false)) := Lib.hid (fun k hk => fetch_gap HOK.out hi (by simp only [ha]; omega) (by omega))
            have hac : ∀ k : Nat, k < n → a + (k : Int) < cap := fun k hk => by omega
            have hbig : a + (n : Int) ≤ 1024 := by omega
            clear hfirst hfit hnx hcap
            go_wp2_with fail
            refine (Find_any cap A nn c l n a true _ HS.out hn (by omega) (Lib.hid hf)).mono ?_
            rintro e w4 ⟨rfl, hb⟩
            have HBW := Lib.hid (HBW.out.trans hb)
            have q0 := hb.cell q0
            have q1 := hb.cell q1
            have HBM := Lib.hid (HBM.out.bel hb)
            have HS := Lib.hid (HS.out.mono BlkR.mono hb)
            clear hb
            go_wp2_with fail
            clear q0 q1 hf ha
            go_loopw [11] (fun kv wr => ∃ k : Nat, kv = .int .i64 k ∧ k ≤ n ∧ Bel w4 wr) (fun kv _ => n - (intOf kv).toNat)
            case atStart => exact ⟨0, rfl, Nat.zero_le _, Bel.refl _⟩
            case round =>
              obtain ⟨k, rfl, hk, hbk⟩ := hrel
              have HBW := Lib.hid (HBW.out.trans hbk)
              have HBM := Lib.hid (HBM.out.bel hbk)
              have HS := Lib.hid (HS.out.mono BlkR.mono hbk)
              have HBK := Lib.hid hbk
              have q0 : wr.cell? ⟨g, 0, none⟩ = some (.int .i64 cap) := HBM.out.cell 0 rfl
              have q1 : wr.cell? ⟨g, 1, none⟩ = some (.slice A nn c) := HBM.out.cell 1 rfl
              clear hbk
              by_cases hkn : k = n
              · subst hkn
                go_wp2_with fail
                have HB := HBW.out
                have HW : ∃ W, W = wr := ⟨_, rfl⟩
                obtain ⟨W, rfl⟩ := HW
                clear HBW HGAP hac
                have S0 : Two ⟨g, 0, none⟩ ⟨g, 1, none⟩ (.int .i64 cap) (.slice A nn c)  W := ⟨q0, q1⟩
                have SD := S0.bel ((Bel.refl W).drew)
                have P0 := fun (w' : World) (h : Two ⟨g, 0, none⟩ ⟨g, 1, none⟩ (.int .i64 cap) (.slice A nn c)  w') => h.c1
                have P1 := fun (w' : World) (h : Two ⟨g, 0, none⟩ ⟨g, 1, none⟩ (.int .i64 cap) (.slice A nn c)  w') => h.c2
                refine wp_region_T (fun w' => Two ⟨g, 0, none⟩ ⟨g, 1, none⟩ (.int .i64 cap) (.slice A nn c)  w') (fun j => decide (j ≠ 0 ∧ j ≠ 3 ∧ j ≠ 8)) (by kernel_rfl) ?_
                refine wpAnyW_take (i := 1) (v := ?v1f) rfl (by kernel_rfl) (by kernel_rfl) (by kernel_rfl) (by kernel_rfl) (fun _ _ _ h => h) (Or.inl ⟨by rfl, ?hy1f⟩) ?rest1f
                case hy1f => (intro w' hSw; go_simp) <;> with_reducible rfl
                try simp only [List.getElem_toArray, List.getElem_cons_zero, List.getElem_cons_succ, Act.put, List.setIfInBounds_toArray, List.set_cons_zero, List.set_cons_succ]
                refine wpAnyW_take (i := 2) (v := ?v2f) rfl (by kernel_rfl) (by kernel_rfl) (by kernel_rfl) (by kernel_rfl) (fun _ _ _ h => h) (Or.inl ⟨by rfl, ?hy2f⟩) ?rest2f
                case hy2f => (intro w' hSw; go_simp) <;> with_reducible rfl
                try simp only [List.getElem_toArray, List.getElem_cons_zero, List.getElem_cons_succ, Act.put, List.setIfInBounds_toArray, List.set_cons_zero, List.set_cons_succ]
                refine wpAnyU_take (i := 0) (v := ?v0f) rfl (by kernel_rfl) (by kernel_rfl) (by kernel_rfl) (by kernel_rfl) (fun _ _ _ h => h) (Or.inl ⟨by rfl, ?hy0f⟩) SD ?rest0f
                case hy0f => (intro w' hSw; go_simp) <;> with_reducible rfl
                try simp only [List.getElem_toArray, List.getElem_cons_zero, List.getElem_cons_succ, Act.put, List.setIfInBounds_toArray, List.set_cons_zero, List.set_cons_succ]
                refine wpAnyT_two (i := 3) (j := 8) (by kernel_rfl) rfl rfl (fun K hK => ?_) (fun K hK => ?_)
                · go_simp
                  refine hK.out _ _ (fun _ => (SD.bel ((Bel.refl _).alloc _))) ?_
                  clear hK K
                  try simp only [List.getElem_toArray, List.getElem_cons_zero, List.getElem_cons_succ, Act.put, List.setIfInBounds_toArray, List.set_cons_zero, List.set_cons_succ]
                  refine wpAnyT_two (i := 4) (j := 8) (by kernel_rfl) rfl rfl (fun K hK => ?_) (fun K hK => ?_)
                  · go_simp
                    go_at_call 11
                    refine (Put_any cap A nn c l 1000000007 place _ k k (zeros k) _ (HS.out.mono BlkR.mono (((Bel.refl W).alloc _).drew)) hn ((made_sl hn4 W).mono (IntR.mono _) ((Bel.refl _).drew)) (Lib.hid (zeros_length k)) hwfb (Lib.hid wf2) cap' l' nl e' hput hnl).mono ?_
                    rintro e w3 ⟨A3, c3, rfl, s3, hb3⟩
                    have hWc : Bel W w3 := (((Bel.refl W).alloc _).drew).trans hb3
                    have HBW := HB.trans hWc
                    have BG0 := HBM.out.bel hWc
                    have hsz3 := hb3.size
                    have hgl := HBM.out.lt
                    have bG2 := Blk.new w3 26 #[.int .i64 cap', .slice A3 nl c3]
                    have HBW := HBW.alloc (.cells #[.int .i64 cap', .slice A3 nl c3] 26)
                    have bg2 := BG0.alloc (.cells #[.int .i64 cap', .slice A3 nl c3] 26)
                    have hs3 := s3.bel ((Bel.refl w3).alloc (.cells #[.int .i64 cap', .slice A3 nl c3] 26))
                    have HWW := hWc.alloc (.cells #[.int .i64 cap', .slice A3 nl c3] 26)
                    refine hK.out _ _ (fun h => absurd h (by decide)) ?_
                    clear hK K
                    try simp only [List.getElem_toArray, List.getElem_cons_zero, List.getElem_cons_succ, Act.put, List.setIfInBounds_toArray, List.set_cons_zero, List.set_cons_succ]
                    refine wpAnyW_take (i := 5) (v := ?v5fa) rfl (by kernel_rfl) (by kernel_rfl) (by kernel_rfl) (by kernel_rfl) (fun _ _ _ h => h) (Or.inl ⟨by rfl, ?hy5fa⟩) ?rest5fa
                    case hy5fa => (intro w' hSw; go_simp) <;> with_reducible rfl
                    try simp only [List.getElem_toArray, List.getElem_cons_zero, List.getElem_cons_succ, Act.put, List.setIfInBounds_toArray, List.set_cons_zero, List.set_cons_succ]
                    refine wpAnyW_take (i := 6) (v := ?v6fa) rfl (by kernel_rfl) (by kernel_rfl) (by kernel_rfl) (by kernel_rfl) (fun _ _ _ h => h) (Or.inl ⟨by rfl, ?hy6fa⟩) ?rest6fa
                    case hy6fa => (intro w' hSw; go_simp) <;> with_reducible rfl
                    try simp only [List.getElem_toArray, List.getElem_cons_zero, List.getElem_cons_succ, Act.put, List.setIfInBounds_toArray, List.set_cons_zero, List.set_cons_succ]
                    refine wpAnyW_take (i := 7) (v := ?v7fa) rfl (by kernel_rfl) (by kernel_rfl) (by kernel_rfl) (by kernel_rfl) (fun _ _ _ h => h) (Or.inl ⟨by rfl, ?hy7fa⟩) ?rest7fa
                    case hy7fa => (intro w' hSw; go_simp) <;> with_reducible rfl
                    try simp only [List.getElem_toArray, List.getElem_cons_zero, List.getElem_cons_succ, Act.put, List.setIfInBounds_toArray, List.set_cons_zero, List.set_cons_succ]
                    refine wpAnyT_one (i := 8) (by kernel_rfl) rfl (fun K hK => ?_)
                    go_simp
                    refine hK.out _ _ (fun _ => ((SD.bel ((Bel.refl _).alloc _)).bel hb3).bel ((Bel.refl _).alloc _)) ?_
                    clear hK K
                    try simp only [List.getElem_toArray, List.getElem_cons_zero, List.getElem_cons_succ, Act.put, List.setIfInBounds_toArray, List.set_cons_zero, List.set_cons_succ]
                    refine wpAnyT_one (i := 9) (by kernel_rfl) rfl (fun K hK => ?_)
                    go_simp
                    refine hK.out _ _ (fun h => absurd h (by decide)) ?_
                    clear hK K
                    try simp only [List.getElem_toArray, List.getElem_cons_zero, List.getElem_cons_succ, Act.put, List.setIfInBounds_toArray, List.set_cons_zero, List.set_cons_succ]
                    refine wpAnyW_take (i := 10) (v := ?v10fa) rfl (by kernel_rfl) (by kernel_rfl) (by kernel_rfl) (by kernel_rfl) (fun _ _ _ h => h) (Or.inl ⟨by rfl, ?hy10fa⟩) ?rest10fa
                    case hy10fa => (intro w' hSw; go_simp) <;> with_reducible rfl
                    try simp only [List.getElem_toArray, List.getElem_cons_zero, List.getElem_cons_succ, Act.put, List.setIfInBounds_toArray, List.set_cons_zero, List.set_cons_succ]
                    refine wpAnyT_done (by kernel_rfl) ?_ _
                    refine NoPanic.normal ?_
                    have HS3 := Lib.hid hs3
                    have HBW := Lib.hid HBW
                    have HWW := Lib.hid HWW
                    have HBg := Lib.hid bg2
                    have HBG := Lib.hid bG2
                    clear hs3 bg2 bG2 BG0 hWc s3 hb3 S0 SD P0 P1
                    by_cases h0 : e' = 0
                    · subst h0
                      have tt : ((0 : Int) != 0) = false := rfl
                      have ta : a ≤ place := HPF.out rfl
                      clear HPF
                      go_wp2_with fail
                      go_ret
                      exact ⟨by first | rfl | simp, HBW.out⟩
                    · have tt : (e' != 0) = true := by simpa using h0
                      clear HPF h0
                      go_wp2_with fail
                      go_ret
                      exact ⟨by first | rfl | simp, HBW.out⟩
                  · go_simp
                    refine hK.out _ _ (fun _ => ((SD.bel ((Bel.refl _).alloc _)).bel ((Bel.refl _).alloc _))) ?_
                    clear hK K
                    try simp only [List.getElem_toArray, List.getElem_cons_zero, List.getElem_cons_succ, Act.put, List.setIfInBounds_toArray, List.set_cons_zero, List.set_cons_succ]
                    refine wpAnyT_one (i := 4) (by kernel_rfl) rfl (fun K hK => ?_)
                    go_simp
                    go_at_call 11
                    refine (Put_any cap A nn c l 1000000007 place _ k k (zeros k) _ (HS.out.mono BlkR.mono ((((Bel.refl W).alloc _).alloc _).drew)) hn ((made_sl hn4 W).mono (IntR.mono _) (((Bel.refl _).alloc (.cells #[.int .i64 0, .slice none 0 0] 26)).drew)) (Lib.hid (zeros_length k)) hwfb (Lib.hid wf2) cap' l' nl e' hput hnl).mono ?_
                    rintro e w3 ⟨A3, c3, rfl, s3, hb3⟩
                    have hWc : Bel W w3 := ((((Bel.refl W).alloc _).alloc _).drew).trans hb3
                    have HBW := HB.trans hWc
                    have BG0 := HBM.out.bel hWc
                    have hsz3 := hb3.size
                    have hgl := HBM.out.lt
                    have bG : Blk w3 (W.heap.size + 1) 26 #[.int .i64 0, .slice none 0 0] := by
                      have := ((Blk.new (W.alloc (.cells (u64s (zeros k)).toArray 40)) 26 #[.int .i64 0, .slice none 0 0]).bel ((Bel.refl _).drew)).bel hb3
                      simpa using this
                    have d0 := bG.cell 0 (v := .int .i64 0) rfl
                    have d1 := bG.cell 1 (v := .slice none 0 0) rfl
                    have z0 := bG.frozen 0
                    have z1 := bG.frozen 1
                    have bG2 := (bG.set 0 (.int .i64 cap')).set 1 (.slice A3 nl c3)
                    have HBW := (HBW.setCell (p := ⟨W.heap.size + 1, 0, none⟩) (by have := HB.size; simp only; omega) (.int .i64 cap')).setCell (p := ⟨W.heap.size + 1, 1, none⟩) (by have := HB.size; simp only; omega) (.slice A3 nl c3)
                    have bg2 := (BG0.other (p := ⟨W.heap.size + 1, 0, none⟩) (by simp only; omega) (.int .i64 cap')).other (p := ⟨W.heap.size + 1, 1, none⟩) (by simp only; omega) (.slice A3 nl c3)
                    have hs3 := s3.abv (((Abv.refl _ w3).set (p := ⟨W.heap.size + 1, 0, none⟩) (by simp; try omega) (.int .i64 cap')).set (p := ⟨W.heap.size + 1, 1, none⟩) (by simp; try omega) (.slice A3 nl c3))
                    have hlow : Abv (W.heap.size + 2) w3 _ := ((Abv.refl _ w3).set (p := ⟨W.heap.size + 1, 0, none⟩) (by simp only; omega) (.int .i64 cap')).set (p := ⟨W.heap.size + 1, 1, none⟩) (by simp only; omega) (.slice A3 nl c3)
                    have HWW := (hWc.setCell (p := ⟨W.heap.size + 1, 0, none⟩) (by simp only; omega) (.int .i64 cap')).setCell (p := ⟨W.heap.size + 1, 1, none⟩) (by simp only; omega) (.slice A3 nl c3)

                    refine hK.out _ _ (fun h => absurd h (by decide)) ?_
                    clear hK K
                    try simp only [List.getElem_toArray, List.getElem_cons_zero, List.getElem_cons_succ, Act.put, List.setIfInBounds_toArray, List.set_cons_zero, List.set_cons_succ]
                    refine wpAnyW_take (i := 5) (v := ?v5fb) rfl (by kernel_rfl) (by kernel_rfl) (by kernel_rfl) (by kernel_rfl) (fun _ _ _ h => h) (Or.inl ⟨by rfl, ?hy5fb⟩) ?rest5fb
                    case hy5fb => (intro w' hSw; go_simp) <;> with_reducible rfl
                    try simp only [List.getElem_toArray, List.getElem_cons_zero, List.getElem_cons_succ, Act.put, List.setIfInBounds_toArray, List.set_cons_zero, List.set_cons_succ]
                    refine wpAnyW_take (i := 6) (v := ?v6fb) rfl (by kernel_rfl) (by kernel_rfl) (by kernel_rfl) (by kernel_rfl) (fun _ _ _ h => h) (Or.inl ⟨by rfl, ?hy6fb⟩) ?rest6fb
                    case hy6fb => (intro w' hSw; go_simp) <;> with_reducible rfl
                    try simp only [List.getElem_toArray, List.getElem_cons_zero, List.getElem_cons_succ, Act.put, List.setIfInBounds_toArray, List.set_cons_zero, List.set_cons_succ]
                    refine wpAnyW_take (i := 7) (v := ?v7fb) rfl (by kernel_rfl) (by kernel_rfl) (by kernel_rfl) (by kernel_rfl) (fun _ _ _ h => h) (Or.inl ⟨by rfl, ?hy7fb⟩) ?rest7fb
                    case hy7fb => (intro w' hSw; go_simp) <;> with_reducible rfl
                    try simp only [List.getElem_toArray, List.getElem_cons_zero, List.getElem_cons_succ, Act.put, List.setIfInBounds_toArray, List.set_cons_zero, List.set_cons_succ]
                    refine wpAnyT_one (i := 9) (by kernel_rfl) rfl (fun K hK => ?_)
                    go_simp
                    refine hK.out _ _ (fun h => absurd h (by decide)) ?_
                    clear hK K
                    try simp only [List.getElem_toArray, List.getElem_cons_zero, List.getElem_cons_succ, Act.put, List.setIfInBounds_toArray, List.set_cons_zero, List.set_cons_succ]
                    refine wpAnyW_take (i := 10) (v := ?v10fb) rfl (by kernel_rfl) (by kernel_rfl) (by kernel_rfl) (by kernel_rfl) (fun _ _ _ h => h) (Or.inl ⟨by rfl, ?hy10fb⟩) ?rest10fb
                    case hy10fb => (intro w' hSw; go_simp) <;> with_reducible rfl
                    try simp only [List.getElem_toArray, List.getElem_cons_zero, List.getElem_cons_succ, Act.put, List.setIfInBounds_toArray, List.set_cons_zero, List.set_cons_succ]
                    refine wpAnyT_done (by kernel_rfl) ?_ _
                    refine NoPanic.normal ?_
                    clear q0 q1
                    have HS3 := Lib.hid hs3
                    have HBW := Lib.hid HBW
                    have HWW := Lib.hid HWW
                    have HBg := Lib.hid bg2
                    have HBG := Lib.hid bG2
                    clear d0 d1 z0 z1 bG hlow
                    clear hs3 bg2 bG2 BG0 hWc s3 hb3 S0 SD P0 P1
                    by_cases h0 : e' = 0
                    · subst h0
                      have tt : ((0 : Int) != 0) = false := rfl
                      have ta : a ≤ place := HPF.out rfl
                      clear HPF
                      go_wp2_with fail
                      go_ret
                      exact ⟨by first | rfl | simp, HBW.out⟩
                    · have tt : (e' != 0) = true := by simpa using h0
                      clear HPF h0
                      go_wp2_with fail
                      go_ret
                      exact ⟨by first | rfl | simp, HBW.out⟩
                · go_simp
                  refine hK.out _ _ (fun _ => (SD.bel ((Bel.refl _).alloc _))) ?_
                  clear hK K
                  try simp only [List.getElem_toArray, List.getElem_cons_zero, List.getElem_cons_succ, Act.put, List.setIfInBounds_toArray, List.set_cons_zero, List.set_cons_succ]
                  refine wpAnyT_one (i := 3) (by kernel_rfl) rfl (fun K hK => ?_)
                  go_simp
                  refine hK.out _ _ (fun _ => ((SD.bel ((Bel.refl _).alloc _)).bel ((Bel.refl _).alloc _))) ?_
                  clear hK K
                  try simp only [List.getElem_toArray, List.getElem_cons_zero, List.getElem_cons_succ, Act.put, List.setIfInBounds_toArray, List.set_cons_zero, List.set_cons_succ]
                  refine wpAnyT_one (i := 4) (by kernel_rfl) rfl (fun K hK => ?_)
                  go_simp
                  go_at_call 11
                  refine (Put_any cap A nn c l 1000000007 place _ k k (zeros k) _ (HS.out.mono BlkR.mono ((((Bel.refl W).alloc _).alloc _).drew)) hn (by have := (made_sl hn4 (W.alloc (.cells #[.int .i64 0, .slice none 0 0] 26))).mono (IntR.mono _) ((Bel.refl _).drew); simpa using this) (Lib.hid (zeros_length k)) hwfb (Lib.hid wf2) cap' l' nl e' hput hnl).mono ?_
                  rintro e w3 ⟨A3, c3, rfl, s3, hb3⟩
                  have hWc : Bel W w3 := ((((Bel.refl W).alloc _).alloc _).drew).trans hb3
                  have HBW := HB.trans hWc
                  have BG0 := HBM.out.bel hWc
                  have hsz3 := hb3.size
                  have hgl := HBM.out.lt
                  have bG : Blk w3 (W.heap.size) 26 #[.int .i64 0, .slice none 0 0] := by
                    have := (((Blk.new W 26 #[.int .i64 0, .slice none 0 0]).alloc (.cells (u64s (zeros k)).toArray 40)).bel ((Bel.refl _).drew)).bel hb3
                    simpa using this
                  have d0 := bG.cell 0 (v := .int .i64 0) rfl
                  have d1 := bG.cell 1 (v := .slice none 0 0) rfl
                  have z0 := bG.frozen 0
                  have z1 := bG.frozen 1
                  have bG2 := (bG.set 0 (.int .i64 cap')).set 1 (.slice A3 nl c3)
                  have HBW := (HBW.setCell (p := ⟨W.heap.size, 0, none⟩) (by have := HB.size; simp only; omega) (.int .i64 cap')).setCell (p := ⟨W.heap.size, 1, none⟩) (by have := HB.size; simp only; omega) (.slice A3 nl c3)
                  have bg2 := (BG0.other (p := ⟨W.heap.size, 0, none⟩) (by simp only; omega) (.int .i64 cap')).other (p := ⟨W.heap.size, 1, none⟩) (by simp only; omega) (.slice A3 nl c3)
                  have hs3 := s3.abv (((Abv.refl _ w3).set (p := ⟨W.heap.size, 0, none⟩) (by simp; try omega) (.int .i64 cap')).set (p := ⟨W.heap.size, 1, none⟩) (by simp; try omega) (.slice A3 nl c3))
                  have hlow : Abv (W.heap.size + 2) w3 _ := ((Abv.refl _ w3).set (p := ⟨W.heap.size, 0, none⟩) (by simp only; omega) (.int .i64 cap')).set (p := ⟨W.heap.size, 1, none⟩) (by simp only; omega) (.slice A3 nl c3)
                  have HWW := (hWc.setCell (p := ⟨W.heap.size, 0, none⟩) (by simp only; omega) (.int .i64 cap')).setCell (p := ⟨W.heap.size, 1, none⟩) (by simp only; omega) (.slice A3 nl c3)

                  refine hK.out _ _ (fun h => absurd h (by decide)) ?_
                  clear hK K
                  try simp only [List.getElem_toArray, List.getElem_cons_zero, List.getElem_cons_succ, Act.put, List.setIfInBounds_toArray, List.set_cons_zero, List.set_cons_succ]
                  refine wpAnyW_take (i := 5) (v := ?v5fc) rfl (by kernel_rfl) (by kernel_rfl) (by kernel_rfl) (by kernel_rfl) (fun _ _ _ h => h) (Or.inl ⟨by rfl, ?hy5fc⟩) ?rest5fc
                  case hy5fc => (intro w' hSw; go_simp) <;> with_reducible rfl
                  try simp only [List.getElem_toArray, List.getElem_cons_zero, List.getElem_cons_succ, Act.put, List.setIfInBounds_toArray, List.set_cons_zero, List.set_cons_succ]
                  refine wpAnyW_take (i := 6) (v := ?v6fc) rfl (by kernel_rfl) (by kernel_rfl) (by kernel_rfl) (by kernel_rfl) (fun _ _ _ h => h) (Or.inl ⟨by rfl, ?hy6fc⟩) ?rest6fc
                  case hy6fc => (intro w' hSw; go_simp) <;> with_reducible rfl
                  try simp only [List.getElem_toArray, List.getElem_cons_zero, List.getElem_cons_succ, Act.put, List.setIfInBounds_toArray, List.set_cons_zero, List.set_cons_succ]
                  refine wpAnyW_take (i := 7) (v := ?v7fc) rfl (by kernel_rfl) (by kernel_rfl) (by kernel_rfl) (by kernel_rfl) (fun _ _ _ h => h) (Or.inl ⟨by rfl, ?hy7fc⟩) ?rest7fc
                  case hy7fc => (intro w' hSw; go_simp) <;> with_reducible rfl
                  try simp only [List.getElem_toArray, List.getElem_cons_zero, List.getElem_cons_succ, Act.put, List.setIfInBounds_toArray, List.set_cons_zero, List.set_cons_succ]
                  refine wpAnyT_one (i := 9) (by kernel_rfl) rfl (fun K hK => ?_)
                  go_simp
                  refine hK.out _ _ (fun h => absurd h (by decide)) ?_
                  clear hK K
                  try simp only [List.getElem_toArray, List.getElem_cons_zero, List.getElem_cons_succ, Act.put, List.setIfInBounds_toArray, List.set_cons_zero, List.set_cons_succ]
                  refine wpAnyW_take (i := 10) (v := ?v10fc) rfl (by kernel_rfl) (by kernel_rfl) (by kernel_rfl) (by kernel_rfl) (fun _ _ _ h => h) (Or.inl ⟨by rfl, ?hy10fc⟩) ?rest10fc
                  case hy10fc => (intro w' hSw; go_simp) <;> with_reducible rfl
                  try simp only [List.getElem_toArray, List.getElem_cons_zero, List.getElem_cons_succ, Act.put, List.setIfInBounds_toArray, List.set_cons_zero, List.set_cons_succ]
                  refine wpAnyT_done (by kernel_rfl) ?_ _
                  refine NoPanic.normal ?_
                  clear q0 q1
                  have HS3 := Lib.hid hs3
                  have HBW := Lib.hid HBW
                  have HWW := Lib.hid HWW
                  have HBg := Lib.hid bg2
                  have HBG := Lib.hid bG2
                  clear d0 d1 z0 z1 bG hlow
                  clear hs3 bg2 bG2 BG0 hWc s3 hb3 S0 SD P0 P1
                  by_cases h0 : e' = 0
                  · subst h0
                    have tt : ((0 : Int) != 0) = false := rfl
                    have ta : a ≤ place := HPF.out rfl
                    clear HPF
                    go_wp2_with fail
                    go_ret
                    exact ⟨by first | rfl | simp, HBW.out⟩
                  · have tt : (e' != 0) = true := by simpa using h0
                    clear HPF h0
                    go_wp2_with fail
                    go_ret
                    exact ⟨by first | rfl | simp, HBW.out⟩
              · have hk1 : k < n := by omega
                have hk2 : (k : Int) < n := by omega
                have ek : IntKind.i64.wrap (a + (k : Int)) = a + k := wrap_i64 (by omega) (by omega)
                have ek1 : IntKind.i64.wrap ((k : Int) + 1) = (k : Int) + 1 := wrap_i64 (by omega) (by omega)
                have hkc := hac k hk1
                have hkc' : ¬ cap ≤ a + (k : Int) := by omega
                go_wp2_with fail
                refine (Fetch_any cap A nn c l (a + k) 0 0 false _ HS.out hn (Lib.hid (HGAP.out k hk1))).mono ?_
                rintro e w5 ⟨rfl, hb⟩
                have q0 := hb.cell q0
                have q1 := hb.cell q1
                have HBK := Lib.hid (HBK.out.trans hb)
                clear hb hkn
                go_wp2
                go_roundw
                case rel => exact ⟨k + 1, by simp, by omega, HBK.out⟩
                case measure => simp [intOf]; omega
          · obtain ⟨hf, hnone⟩ := hcase
            have HPF : Hid (e' ≠ 0) := Lib.hid (fun h => by
              obtain ⟨x, h1, h2⟩ := put_find HOK.out (b := ⟨1000000007, place, zeros n⟩) (by unfold zeros; rw [ne_eq, List.replicate_eq_nil_iff]; omega) (by rw [hput.out]; exact h)
              simp only [zeros_length, hf, Prod.mk.injEq] at h1
              exact absurd h1.2 (by decide))
            clear hnone
            go_wp2_with fail
            refine (Find_any cap A nn c l n 0 false _ HS.out hn (by omega) (Lib.hid hf)).mono ?_
            rintro e w4 ⟨rfl, hb⟩
            have HBW := Lib.hid (HBW.out.trans hb)
            have q0 := hb.cell q0
            have q1 := hb.cell q1
            have HBM := Lib.hid (HBM.out.bel hb)
            have HS := Lib.hid (HS.out.mono BlkR.mono hb)
            clear hb
            go_wp2_with fail
            clear q0 q1 hf
            go_loopw [11] (fun kv wr => kv = .int .i64 0 ∧ wr = w4) (fun kv _ => 0)
            case atStart => exact ⟨rfl, rfl⟩
            case round =>
              obtain ⟨rfl, rfl⟩ := hrel
              have q0 : wr.cell? ⟨g, 0, none⟩ = some (.int .i64 cap) := HBM.out.cell 0 rfl
              have q1 : wr.cell? ⟨g, 1, none⟩ = some (.slice A nn c) := HBM.out.cell 1 rfl
              have hn2 : (0 : Int) < n := by omega
              go_wp2_with fail
              have HB := HBW.out
              have HW : ∃ W, W = wr := ⟨_, rfl⟩
              obtain ⟨W, rfl⟩ := HW
              clear HBW
              have S0 : Two ⟨g, 0, none⟩ ⟨g, 1, none⟩ (.int .i64 cap) (.slice A nn c)  W := ⟨q0, q1⟩
              have SD := S0.bel ((Bel.refl W).drew)
              have P0 := fun (w' : World) (h : Two ⟨g, 0, none⟩ ⟨g, 1, none⟩ (.int .i64 cap) (.slice A nn c)  w') => h.c1
              have P1 := fun (w' : World) (h : Two ⟨g, 0, none⟩ ⟨g, 1, none⟩ (.int .i64 cap) (.slice A nn c)  w') => h.c2
              refine wp_region_T (fun w' => Two ⟨g, 0, none⟩ ⟨g, 1, none⟩ (.int .i64 cap) (.slice A nn c)  w') (fun j => decide (j ≠ 0 ∧ j ≠ 3 ∧ j ≠ 8)) (by kernel_rfl) ?_
              refine wpAnyW_take (i := 1) (v := ?v1n) rfl (by kernel_rfl) (by kernel_rfl) (by kernel_rfl) (by kernel_rfl) (fun _ _ _ h => h) (Or.inl ⟨by rfl, ?hy1n⟩) ?rest1n
              case hy1n => (intro w' hSw; go_simp) <;> with_reducible rfl
              try simp only [List.getElem_toArray, List.getElem_cons_zero, List.getElem_cons_succ, Act.put, List.setIfInBounds_toArray, List.set_cons_zero, List.set_cons_succ]
              refine wpAnyW_take (i := 2) (v := ?v2n) rfl (by kernel_rfl) (by kernel_rfl) (by kernel_rfl) (by kernel_rfl) (fun _ _ _ h => h) (Or.inl ⟨by rfl, ?hy2n⟩) ?rest2n
              case hy2n => (intro w' hSw; go_simp) <;> with_reducible rfl
              try simp only [List.getElem_toArray, List.getElem_cons_zero, List.getElem_cons_succ, Act.put, List.setIfInBounds_toArray, List.set_cons_zero, List.set_cons_succ]
              refine wpAnyU_take (i := 0) (v := ?v0n) rfl (by kernel_rfl) (by kernel_rfl) (by kernel_rfl) (by kernel_rfl) (fun _ _ _ h => h) (Or.inl ⟨by rfl, ?hy0n⟩) SD ?rest0n
              case hy0n => (intro w' hSw; go_simp) <;> with_reducible rfl
              try simp only [List.getElem_toArray, List.getElem_cons_zero, List.getElem_cons_succ, Act.put, List.setIfInBounds_toArray, List.set_cons_zero, List.set_cons_succ]
              refine wpAnyT_two (i := 3) (j := 8) (by kernel_rfl) rfl rfl (fun K hK => ?_) (fun K hK => ?_)
              · go_simp
                refine hK.out _ _ (fun _ => (SD.bel ((Bel.refl _).alloc _))) ?_
                clear hK K
                try simp only [List.getElem_toArray, List.getElem_cons_zero, List.getElem_cons_succ, Act.put, List.setIfInBounds_toArray, List.set_cons_zero, List.set_cons_succ]
                refine wpAnyT_two (i := 4) (j := 8) (by kernel_rfl) rfl rfl (fun K hK => ?_) (fun K hK => ?_)
                · go_simp
                  go_at_call 11
                  refine (Put_any cap A nn c l 1000000007 place _ n n (zeros n) _ (HS.out.mono BlkR.mono (((Bel.refl W).alloc _).drew)) hn ((made_sl hn4 W).mono (IntR.mono _) ((Bel.refl _).drew)) (Lib.hid (zeros_length n)) hwfb (Lib.hid wf2) cap' l' nl e' hput hnl).mono ?_
                  rintro e w3 ⟨A3, c3, rfl, s3, hb3⟩
                  have hWc : Bel W w3 := (((Bel.refl W).alloc _).drew).trans hb3
                  have HBW := HB.trans hWc
                  have BG0 := HBM.out.bel hWc
                  have hsz3 := hb3.size
                  have hgl := HBM.out.lt
                  have bG2 := Blk.new w3 26 #[.int .i64 cap', .slice A3 nl c3]
                  have HBW := HBW.alloc (.cells #[.int .i64 cap', .slice A3 nl c3] 26)
                  have bg2 := BG0.alloc (.cells #[.int .i64 cap', .slice A3 nl c3] 26)
                  have hs3 := s3.bel ((Bel.refl w3).alloc (.cells #[.int .i64 cap', .slice A3 nl c3] 26))
                  have HWW := hWc.alloc (.cells #[.int .i64 cap', .slice A3 nl c3] 26)
                  refine hK.out _ _ (fun h => absurd h (by decide)) ?_
                  clear hK K
                  try simp only [List.getElem_toArray, List.getElem_cons_zero, List.getElem_cons_succ, Act.put, List.setIfInBounds_toArray, List.set_cons_zero, List.set_cons_succ]
                  refine wpAnyW_take (i := 5) (v := ?v5na) rfl (by kernel_rfl) (by kernel_rfl) (by kernel_rfl) (by kernel_rfl) (fun _ _ _ h => h) (Or.inl ⟨by rfl, ?hy5na⟩) ?rest5na
                  case hy5na => (intro w' hSw; go_simp) <;> with_reducible rfl
                  try simp only [List.getElem_toArray, List.getElem_cons_zero, List.getElem_cons_succ, Act.put, List.setIfInBounds_toArray, List.set_cons_zero, List.set_cons_succ]
                  refine wpAnyW_take (i := 6) (v := ?v6na) rfl (by kernel_rfl) (by kernel_rfl) (by kernel_rfl) (by kernel_rfl) (fun _ _ _ h => h) (Or.inl ⟨by rfl, ?hy6na⟩) ?rest6na
                  case hy6na => (intro w' hSw; go_simp) <;> with_reducible rfl
                  try simp only [List.getElem_toArray, List.getElem_cons_zero, List.getElem_cons_succ, Act.put, List.setIfInBounds_toArray, List.set_cons_zero, List.set_cons_succ]
                  refine wpAnyW_take (i := 7) (v := ?v7na) rfl (by kernel_rfl) (by kernel_rfl) (by kernel_rfl) (by kernel_rfl) (fun _ _ _ h => h) (Or.inl ⟨by rfl, ?hy7na⟩) ?rest7na
                  case hy7na => (intro w' hSw; go_simp) <;> with_reducible rfl
                  try simp only [List.getElem_toArray, List.getElem_cons_zero, List.getElem_cons_succ, Act.put, List.setIfInBounds_toArray, List.set_cons_zero, List.set_cons_succ]
                  refine wpAnyT_one (i := 8) (by kernel_rfl) rfl (fun K hK => ?_)
                  go_simp
                  refine hK.out _ _ (fun _ => ((SD.bel ((Bel.refl _).alloc _)).bel hb3).bel ((Bel.refl _).alloc _)) ?_
                  clear hK K
                  try simp only [List.getElem_toArray, List.getElem_cons_zero, List.getElem_cons_succ, Act.put, List.setIfInBounds_toArray, List.set_cons_zero, List.set_cons_succ]
                  refine wpAnyT_one (i := 9) (by kernel_rfl) rfl (fun K hK => ?_)
                  go_simp
                  refine hK.out _ _ (fun h => absurd h (by decide)) ?_
                  clear hK K
                  try simp only [List.getElem_toArray, List.getElem_cons_zero, List.getElem_cons_succ, Act.put, List.setIfInBounds_toArray, List.set_cons_zero, List.set_cons_succ]
                  refine wpAnyW_take (i := 10) (v := ?v10na) rfl (by kernel_rfl) (by kernel_rfl) (by kernel_rfl) (by kernel_rfl) (fun _ _ _ h => h) (Or.inl ⟨by rfl, ?hy10na⟩) ?rest10na
                  case hy10na => (intro w' hSw; go_simp) <;> with_reducible rfl
                  try simp only [List.getElem_toArray, List.getElem_cons_zero, List.getElem_cons_succ, Act.put, List.setIfInBounds_toArray, List.set_cons_zero, List.set_cons_succ]
                  refine wpAnyT_done (by kernel_rfl) ?_ _
                  refine NoPanic.normal ?_
                  have HS3 := Lib.hid hs3
                  have HBW := Lib.hid HBW
                  have HWW := Lib.hid HWW
                  have HBg := Lib.hid bg2
                  have HBG := Lib.hid bG2
                  clear hs3 bg2 bG2 BG0 hWc s3 hb3 S0 SD P0 P1
                  have tt : (e' != 0) = true := by simpa using HPF.out
                  clear HPF
                  go_wp2_with fail
                  go_ret
                  exact ⟨by first | rfl | simp, HBW.out⟩
                · go_simp
                  refine hK.out _ _ (fun _ => ((SD.bel ((Bel.refl _).alloc _)).bel ((Bel.refl _).alloc _))) ?_
                  clear hK K
                  try simp only [List.getElem_toArray, List.getElem_cons_zero, List.getElem_cons_succ, Act.put, List.setIfInBounds_toArray, List.set_cons_zero, List.set_cons_succ]
                  refine wpAnyT_one (i := 4) (by kernel_rfl) rfl (fun K hK => ?_)
                  go_simp
                  go_at_call 11
                  refine (Put_any cap A nn c l 1000000007 place _ n n (zeros n) _ (HS.out.mono BlkR.mono ((((Bel.refl W).alloc _).alloc _).drew)) hn ((made_sl hn4 W).mono (IntR.mono _) (((Bel.refl _).alloc (.cells #[.int .i64 0, .slice none 0 0] 26)).drew)) (Lib.hid (zeros_length n)) hwfb (Lib.hid wf2) cap' l' nl e' hput hnl).mono ?_
                  rintro e w3 ⟨A3, c3, rfl, s3, hb3⟩
                  have hWc : Bel W w3 := ((((Bel.refl W).alloc _).alloc _).drew).trans hb3
                  have HBW := HB.trans hWc
                  have BG0 := HBM.out.bel hWc
                  have hsz3 := hb3.size
                  have hgl := HBM.out.lt
                  have bG : Blk w3 (W.heap.size + 1) 26 #[.int .i64 0, .slice none 0 0] := by
                    have := ((Blk.new (W.alloc (.cells (u64s (zeros n)).toArray 40)) 26 #[.int .i64 0, .slice none 0 0]).bel ((Bel.refl _).drew)).bel hb3
                    simpa using this
                  have d0 := bG.cell 0 (v := .int .i64 0) rfl
                  have d1 := bG.cell 1 (v := .slice none 0 0) rfl
                  have z0 := bG.frozen 0
                  have z1 := bG.frozen 1
                  have bG2 := (bG.set 0 (.int .i64 cap')).set 1 (.slice A3 nl c3)
                  have HBW := (HBW.setCell (p := ⟨W.heap.size + 1, 0, none⟩) (by have := HB.size; simp only; omega) (.int .i64 cap')).setCell (p := ⟨W.heap.size + 1, 1, none⟩) (by have := HB.size; simp only; omega) (.slice A3 nl c3)
                  have bg2 := (BG0.other (p := ⟨W.heap.size + 1, 0, none⟩) (by simp only; omega) (.int .i64 cap')).other (p := ⟨W.heap.size + 1, 1, none⟩) (by simp only; omega) (.slice A3 nl c3)
                  have hs3 := s3.abv (((Abv.refl _ w3).set (p := ⟨W.heap.size + 1, 0, none⟩) (by simp; try omega) (.int .i64 cap')).set (p := ⟨W.heap.size + 1, 1, none⟩) (by simp; try omega) (.slice A3 nl c3))
                  have hlow : Abv (W.heap.size + 2) w3 _ := ((Abv.refl _ w3).set (p := ⟨W.heap.size + 1, 0, none⟩) (by simp only; omega) (.int .i64 cap')).set (p := ⟨W.heap.size + 1, 1, none⟩) (by simp only; omega) (.slice A3 nl c3)
                  have HWW := (hWc.setCell (p := ⟨W.heap.size + 1, 0, none⟩) (by simp only; omega) (.int .i64 cap')).setCell (p := ⟨W.heap.size + 1, 1, none⟩) (by simp only; omega) (.slice A3 nl c3)

                  refine hK.out _ _ (fun h => absurd h (by decide)) ?_
                  clear hK K
                  try simp only [List.getElem_toArray, List.getElem_cons_zero, List.getElem_cons_succ, Act.put, List.setIfInBounds_toArray, List.set_cons_zero, List.set_cons_succ]
                  refine wpAnyW_take (i := 5) (v := ?v5nb) rfl (by kernel_rfl) (by kernel_rfl) (by kernel_rfl) (by kernel_rfl) (fun _ _ _ h => h) (Or.inl ⟨by rfl, ?hy5nb⟩) ?rest5nb
                  case hy5nb => (intro w' hSw; go_simp) <;> with_reducible rfl
                  try simp only [List.getElem_toArray, List.getElem_cons_zero, List.getElem_cons_succ, Act.put, List.setIfInBounds_toArray, List.set_cons_zero, List.set_cons_succ]
                  refine wpAnyW_take (i := 6) (v := ?v6nb) rfl (by kernel_rfl) (by kernel_rfl) (by kernel_rfl) (by kernel_rfl) (fun _ _ _ h => h) (Or.inl ⟨by rfl, ?hy6nb⟩) ?rest6nb
                  case hy6nb => (intro w' hSw; go_simp) <;> with_reducible rfl
                  try simp only [List.getElem_toArray, List.getElem_cons_zero, List.getElem_cons_succ, Act.put, List.setIfInBounds_toArray, List.set_cons_zero, List.set_cons_succ]
                  refine wpAnyW_take (i := 7) (v := ?v7nb) rfl (by kernel_rfl) (by kernel_rfl) (by kernel_rfl) (by kernel_rfl) (fun _ _ _ h => h) (Or.inl ⟨by rfl, ?hy7nb⟩) ?rest7nb
                  case hy7nb => (intro w' hSw; go_simp) <;> with_reducible rfl
                  try simp only [List.getElem_toArray, List.getElem_cons_zero, List.getElem_cons_succ, Act.put, List.setIfInBounds_toArray, List.set_cons_zero, List.set_cons_succ]
                  refine wpAnyT_one (i := 9) (by kernel_rfl) rfl (fun K hK => ?_)
                  go_simp
                  refine hK.out _ _ (fun h => absurd h (by decide)) ?_
                  clear hK K
                  try simp only [List.getElem_toArray, List.getElem_cons_zero, List.getElem_cons_succ, Act.put, List.setIfInBounds_toArray, List.set_cons_zero, List.set_cons_succ]
                  refine wpAnyW_take (i := 10) (v := ?v10nb) rfl (by kernel_rfl) (by kernel_rfl) (by kernel_rfl) (by kernel_rfl) (fun _ _ _ h => h) (Or.inl ⟨by rfl, ?hy10nb⟩) ?rest10nb
                  case hy10nb => (intro w' hSw; go_simp) <;> with_reducible rfl
                  try simp only [List.getElem_toArray, List.getElem_cons_zero, List.getElem_cons_succ, Act.put, List.setIfInBounds_toArray, List.set_cons_zero, List.set_cons_succ]
                  refine wpAnyT_done (by kernel_rfl) ?_ _
                  refine NoPanic.normal ?_
                  clear q0 q1
                  have HS3 := Lib.hid hs3
                  have HBW := Lib.hid HBW
                  have HWW := Lib.hid HWW
                  have HBg := Lib.hid bg2
                  have HBG := Lib.hid bG2
                  clear d0 d1 z0 z1 bG hlow
                  clear hs3 bg2 bG2 BG0 hWc s3 hb3 S0 SD P0 P1
                  have tt : (e' != 0) = true := by simpa using HPF.out
                  clear HPF
                  go_wp2_with fail
                  go_ret
                  exact ⟨by first | rfl | simp, HBW.out⟩
              · go_simp
                refine hK.out _ _ (fun _ => (SD.bel ((Bel.refl _).alloc _))) ?_
                clear hK K
                try simp only [List.getElem_toArray, List.getElem_cons_zero, List.getElem_cons_succ, Act.put, List.setIfInBounds_toArray, List.set_cons_zero, List.set_cons_succ]
                refine wpAnyT_one (i := 3) (by kernel_rfl) rfl (fun K hK => ?_)
                go_simp
                refine hK.out _ _ (fun _ => ((SD.bel ((Bel.refl _).alloc _)).bel ((Bel.refl _).alloc _))) ?_
                clear hK K
                try simp only [List.getElem_toArray, List.getElem_cons_zero, List.getElem_cons_succ, Act.put, List.setIfInBounds_toArray, List.set_cons_zero, List.set_cons_succ]
                refine wpAnyT_one (i := 4) (by kernel_rfl) rfl (fun K hK => ?_)
                go_simp
                go_at_call 11
                refine (Put_any cap A nn c l 1000000007 place _ n n (zeros n) _ (HS.out.mono BlkR.mono ((((Bel.refl W).alloc _).alloc _).drew)) hn (by have := (made_sl hn4 (W.alloc (.cells #[.int .i64 0, .slice none 0 0] 26))).mono (IntR.mono _) ((Bel.refl _).drew); simpa using this) (Lib.hid (zeros_length n)) hwfb (Lib.hid wf2) cap' l' nl e' hput hnl).mono ?_
                rintro e w3 ⟨A3, c3, rfl, s3, hb3⟩
                have hWc : Bel W w3 := ((((Bel.refl W).alloc _).alloc _).drew).trans hb3
                have HBW := HB.trans hWc
                have BG0 := HBM.out.bel hWc
                have hsz3 := hb3.size
                have hgl := HBM.out.lt
                have bG : Blk w3 (W.heap.size) 26 #[.int .i64 0, .slice none 0 0] := by
                  have := (((Blk.new W 26 #[.int .i64 0, .slice none 0 0]).alloc (.cells (u64s (zeros n)).toArray 40)).bel ((Bel.refl _).drew)).bel hb3
                  simpa using this
                have d0 := bG.cell 0 (v := .int .i64 0) rfl
                have d1 := bG.cell 1 (v := .slice none 0 0) rfl
                have z0 := bG.frozen 0
                have z1 := bG.frozen 1
                have bG2 := (bG.set 0 (.int .i64 cap')).set 1 (.slice A3 nl c3)
                have HBW := (HBW.setCell (p := ⟨W.heap.size, 0, none⟩) (by have := HB.size; simp only; omega) (.int .i64 cap')).setCell (p := ⟨W.heap.size, 1, none⟩) (by have := HB.size; simp only; omega) (.slice A3 nl c3)
                have bg2 := (BG0.other (p := ⟨W.heap.size, 0, none⟩) (by simp only; omega) (.int .i64 cap')).other (p := ⟨W.heap.size, 1, none⟩) (by simp only; omega) (.slice A3 nl c3)
                have hs3 := s3.abv (((Abv.refl _ w3).set (p := ⟨W.heap.size, 0, none⟩) (by simp; try omega) (.int .i64 cap')).set (p := ⟨W.heap.size, 1, none⟩) (by simp; try omega) (.slice A3 nl c3))
                have hlow : Abv (W.heap.size + 2) w3 _ := ((Abv.refl _ w3).set (p := ⟨W.heap.size, 0, none⟩) (by simp only; omega) (.int .i64 cap')).set (p := ⟨W.heap.size, 1, none⟩) (by simp only; omega) (.slice A3 nl c3)
                have HWW := (hWc.setCell (p := ⟨W.heap.size, 0, none⟩) (by simp only; omega) (.int .i64 cap')).setCell (p := ⟨W.heap.size, 1, none⟩) (by simp only; omega) (.slice A3 nl c3)

                refine hK.out _ _ (fun h => absurd h (by decide)) ?_
                clear hK K
                try simp only [List.getElem_toArray, List.getElem_cons_zero, List.getElem_cons_succ, Act.put, List.setIfInBounds_toArray, List.set_cons_zero, List.set_cons_succ]
                refine wpAnyW_take (i := 5) (v := ?v5nc) rfl (by kernel_rfl) (by kernel_rfl) (by kernel_rfl) (by kernel_rfl) (fun _ _ _ h => h) (Or.inl ⟨by rfl, ?hy5nc⟩) ?rest5nc
                case hy5nc => (intro w' hSw; go_simp) <;> with_reducible rfl
                try simp only [List.getElem_toArray, List.getElem_cons_zero, List.getElem_cons_succ, Act.put, List.setIfInBounds_toArray, List.set_cons_zero, List.set_cons_succ]
                refine wpAnyW_take (i := 6) (v := ?v6nc) rfl (by kernel_rfl) (by kernel_rfl) (by kernel_rfl) (by kernel_rfl) (fun _ _ _ h => h) (Or.inl ⟨by rfl, ?hy6nc⟩) ?rest6nc
                case hy6nc => (intro w' hSw; go_simp) <;> with_reducible rfl
                try simp only [List.getElem_toArray, List.getElem_cons_zero, List.getElem_cons_succ, Act.put, List.setIfInBounds_toArray, List.set_cons_zero, List.set_cons_succ]
                refine wpAnyW_take (i := 7) (v := ?v7nc) rfl (by kernel_rfl) (by kernel_rfl) (by kernel_rfl) (by kernel_rfl) (fun _ _ _ h => h) (Or.inl ⟨by rfl, ?hy7nc⟩) ?rest7nc
                case hy7nc => (intro w' hSw; go_simp) <;> with_reducible rfl
                try simp only [List.getElem_toArray, List.getElem_cons_zero, List.getElem_cons_succ, Act.put, List.setIfInBounds_toArray, List.set_cons_zero, List.set_cons_succ]
                refine wpAnyT_one (i := 9) (by kernel_rfl) rfl (fun K hK => ?_)
                go_simp
                refine hK.out _ _ (fun h => absurd h (by decide)) ?_
                clear hK K
                try simp only [List.getElem_toArray, List.getElem_cons_zero, List.getElem_cons_succ, Act.put, List.setIfInBounds_toArray, List.set_cons_zero, List.set_cons_succ]
                refine wpAnyW_take (i := 10) (v := ?v10nc) rfl (by kernel_rfl) (by kernel_rfl) (by kernel_rfl) (by kernel_rfl) (fun _ _ _ h => h) (Or.inl ⟨by rfl, ?hy10nc⟩) ?rest10nc
                case hy10nc => (intro w' hSw; go_simp) <;> with_reducible rfl
                try simp only [List.getElem_toArray, List.getElem_cons_zero, List.getElem_cons_succ, Act.put, List.setIfInBounds_toArray, List.set_cons_zero, List.set_cons_succ]
                refine wpAnyT_done (by kernel_rfl) ?_ _
                refine NoPanic.normal ?_
                clear q0 q1
                have HS3 := Lib.hid hs3
                have HBW := Lib.hid HBW
                have HWW := Lib.hid HWW
                have HBg := Lib.hid bg2
                have HBG := Lib.hid bG2
                clear d0 d1 z0 z1 bG hlow
                clear hs3 bg2 bG2 BG0 hWc s3 hb3 S0 SD P0 P1
                have tt : (e' != 0) = true := by simpa using HPF.out
                clear HPF
                go_wp2_with fail
                go_ret
                exact ⟨by first | rfl | simp, HBW.out⟩
end Go.Proofs.Ytegdnmlpoglfeaa
