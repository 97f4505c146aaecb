/- CourseFine's walk. -/
import Derived.Test.YtpfnjbebfihkeaaCrsLawForward
set_option linter.unusedVariables false
set_option linter.unusedSimpArgs false
namespace Go.Proofs.Ytpfnjbebfihkeaa
open Go.RowKit

set_option maxHeartbeats 4000000 in
set_option maxRecDepth 100000 in
theorem CourseFine_walk (A : Option Addr) (cap : Nat) (l : List InstD) (W : World) (hl : Sl InstR 7 W A cap l) :
    Calls Try.prog 8 #[.slice A l.length cap] W fun e w' => e = .returned (.bool true) ∧ Bel W w' := by
  have HS := Lib.hid hl
  obtain ⟨n, hn0⟩ : ∃ n, l.length = n := ⟨_, rfl⟩
  have hn := Lib.hid hn0
  rw [hn0]
  have hbig : n ≤ 9223372036854775807 := by rw [← hn0]; have := hl.le; have := hl.big; simp only [maxLen] at this; omega
  have HBIG := Lib.hid hbig
  clear hl hn0 hbig
  by_cases h80 : (80 : Int) < n
  · go_enter Try.func8, Try.ntmps8
    go_wp2_with fail
    refine (awake_any _).mono ?_
    rintro e w1 ⟨rfl, hb⟩
    go_wp2_with fail
    go_ret
    exact ⟨rfl, hb⟩
  · by_cases hf : fineB l = true
    · have HF := Lib.hid hf
      obtain ⟨hm, hff⟩ := fine_facts hf
      have HM := Lib.hid hm
      have HFF := Lib.hid hff
      have HEND := Lib.hid (fine_end hf)
      obtain ⟨m0, m1, -⟩ := crsMay_facts hm
      rw [hn.out] at m0 m1
      have hn0' : (0 : Int) < n := by omega
      have t0 : ((n : Int) == (n : Int)) = true := by simp
      have HRL : Hid ((reach l).length = n) := Lib.hid (by rw [reach_length, hn.out])
      obtain ⟨b0, o0, rfl⟩ := HS.out.addr (by rw [hn.out]; exact m0)
      clear hm hf hff
      go_enter Try.func8, Try.ntmps8
      go_wp2_with fail
      refine (awake_any _).mono ?_
      rintro e w1 ⟨rfl, hb⟩
      have HB := hb
      have HS := Lib.hid (HS.out.mono InstR.mono hb)
      clear hb
      go_wp2_with fail
      refine (Fine_any _ _ _ l true _ HS.out hn HF).mono ?_
      rintro e w2 ⟨rfl, hb⟩
      have HB := HB.trans hb
      have HS := Lib.hid (HS.out.mono InstR.mono hb)
      clear hb
      go_wp2_with fail
      refine (Reach_any _ _ _ _ (reach l) _ HS.out hn (Lib.hid (by unfold reachR; rw [if_pos HM.out]))).mono ?_
      rw [HRL.out]
      rintro e w2 ⟨A2, c2, rfl, s2, hb⟩
      have HB := HB.trans hb
      have HS := Lib.hid (HS.out.mono InstR.mono hb)
      obtain ⟨b2, o2, rfl, hc2⟩ := s2.bool_cell (by rw [HRL.out]; exact m0)
      have HC2 : Hid (∀ i, i < n → w2.cell? ⟨b2, o2 + i, none⟩ = some (.bool ((reach l).getD i false))) := Lib.hid (fun i hi => hc2 i (by rw [HRL.out]; exact hi))
      clear hb s2 hc2
      go_wp2_with fail
      go_loopw [5, 6] (fun ev v wr => ∃ i E : Nat, v = .int .i64 i ∧ ev = .int .i64 E ∧ i ≤ n ∧ E ≤ i ∧ Hid (∀ k, k < i → (reach l).getD k false = true → (l[k]!).op = 7 → 1 ≤ E) ∧ Bel w2 wr) (fun _ v _ => n - (intOf v).toNat)
      case atStart => exact ⟨0, 0, rfl, rfl, Nat.zero_le _, Nat.le_refl _, Lib.hid (fun k hk => absurd hk (Nat.not_lt_zero _)), Bel.refl _⟩
      case round =>
        obtain ⟨i, E, rfl, rfl, hi, hE, HE, hbi⟩ := hrel
        have HBw := HB.trans hbi
        have HSr := Lib.hid (HS.out.mono InstR.mono hbi)
        by_cases hin : i = n
        · subst hin
          have he1 : 1 ≤ E := by
            obtain ⟨k, hk, h1, h2⟩ := HEND.out
            exact HE.out k (by rw [← hn.out]; exact hk) h1 h2
          have he2 : (1 : Int) ≤ E := by omega
          clear he1
          go_wp2_with fail
          go_ret
          exact ⟨by simp, HBw⟩
        · have hi1 : i < n := by omega
          have hi2 : (i : Int) < n := by omega
          have i0 : 0 ≤ (i : Int) := by omega
          have HEI : Hid (IntKind.i64.wrap ((i : Int) + 1) = (i : Int) + 1) := Lib.hid (wrap_i64 (by omega) (by omega))
          have eE : IntKind.i64.wrap ((E : Int) + 1) = (E : Int) + 1 := wrap_i64 (by omega) (by omega)
          have HIL : Hid (i < l.length) := Lib.hid (by rw [hn.out]; exact hi1)
          obtain ⟨ts, hts⟩ : ∃ ts, Hid (nxt l[i]! i = ts) := ⟨_, Lib.hid rfl⟩
          have HIN := Lib.hid hin
          clear hin
          go_wp2_with fail
          refine (Next_any _ _ _ l i ts _ HSr.out hn (Lib.hid ((nextR_in HM.out HIL.out).trans hts.out))).mono ?_
          rintro e w3 ⟨A3, c3, rfl, s3, -, hb3⟩
          have HSr := Lib.hid (HSr.out.mono InstR.mono hb3)
          have HBw := HBw.trans hb3
          have hbi := hbi.trans hb3
          have S3 := Lib.hid s3
          have HBI := Lib.hid hbi
          have rc := hbi.cell (HC2.out i hi1)
          have kc := inst_cells HSr.out i HIL.out 0 _ rfl
          rw [Nat.add_zero] at kc
          have HNI : Hid (ts = [] ↔ (l[i]!).op = 7) := Lib.hid (by rw [← hts.out]; exact nxt_nil_iff)
          have HTS : Hid ((reach l).getD i false = true → ∀ t ∈ ts, t < n ∧ (reach l).getD t false = true) := Lib.hid (fun hr t ht => by
            rw [← hts.out] at ht
            have h1 := HFF.out i HIL.out hr t ht
            exact ⟨by rw [← hn.out]; exact h1, reach_next HIL.out h1 hr ht⟩)
          have HT2 : Hid (ts.length ≤ 2) := Lib.hid (by rw [← hts.out]; exact nxt_two _ _)
          clear s3 hb3 hts hbi
          by_cases hr : (reach l).getD i false = true
          · rw [hr] at rc
            have HTS := Lib.hid (HTS.out hr)
            by_cases h7 : (l[i]!).op = 7
            · have hnil : ts = [] := HNI.out.2 h7
              subst hnil
              rw [h7] at kc
              have HE' : Hid (∀ k, k < i + 1 → (reach l).getD k false = true → (l[k]!).op = 7 → 1 ≤ E + 1) := Lib.hid (fun k _ _ _ => by omega)
              clear h7 HNI hr
              simp only [List.length_nil]
              go_wp2_with fail
              go_loopw [8] (fun v wr => v = .int .i64 0 ∧ wr = w3) (fun v _ => 0)
              case atStart => exact ⟨rfl, rfl⟩
              case round =>
                obtain ⟨rfl, rfl⟩ := hrel
                have ei := HEI.out
                go_wp2
                go_roundw
                case rel => exact ⟨i + 1, E + 1, by simp, by simp, by omega, by omega, HE', HBI.out⟩
                case measure => simp [intOf]; omega
            · have h7' : ((l[i]!).op == 7) = false := by simpa using h7
              have hnn : ts ≠ [] := fun h => h7 (HNI.out.1 h)
              have hlen : 0 < ts.length := List.length_pos_iff.2 hnn
              have hlen' : ((ts.length : Int) == 0) = false := by rw [beq_eq_false_iff_ne]; omega
              have hlen2 : (0 : Int) < ts.length := by omega
              have htl : ts.length ≤ 2 := HT2.out
              have HE' : Hid (∀ k, k < i + 1 → (reach l).getD k false = true → (l[k]!).op = 7 → 1 ≤ E) := Lib.hid (fun k hk h1 h2 => by
                by_cases e : k = i
                · subst e; exact absurd h2 h7
                · exact HE.out k (by omega) h1 h2)
              generalize (l[i]!).op = op at *
              obtain ⟨b3, o3, rfl, hc3⟩ := ints_cells S3.out hlen
              have HC3 := Lib.hid hc3
              have rcw := rc
              clear h7 HNI hnn hr hc3
              go_wp2_with fail
              go_loopw [8] (fun v wr => ∃ k : Nat, v = .int .i64 k ∧ k ≤ ts.length ∧ wr = w3) (fun v _ => ts.length - (intOf v).toNat)
              case atStart => exact ⟨0, rfl, Nat.zero_le _, rfl⟩
              case round =>
                obtain ⟨k, rfl, hk, rfl⟩ := hrel
                by_cases hkt : k = ts.length
                · subst hkt
                  have ei := HEI.out
                  go_wp2
                  go_roundw
                  case rel => exact ⟨i + 1, E, by simp, rfl, by omega, by omega, HE', HBI.out⟩
                  case measure => simp [intOf]; omega
                · have hk1 : k < ts.length := by omega
                  have hk2 : (k : Int) < ts.length := by omega
                  have k0 : 0 ≤ (k : Int) := by omega
                  have ek : IntKind.i64.wrap ((k : Int) + 1) = (k : Int) + 1 := wrap_i64 (by omega) (by omega)
                  have d3 := HC3.out k hk1
                  obtain ⟨ht1, ht2⟩ := HTS.out ts[k] (List.getElem_mem hk1)
                  have d4 := HBI.out.cell (HC2.out _ ht1)
                  rw [ht2] at d4
                  generalize ts[k] = t at *
                  have ht3 : ¬ (t : Int) < 0 := by omega
                  have ht4 : ¬ (n : Int) ≤ (t : Int) := by omega
                  have ht5 : 0 ≤ (t : Int) := by omega
                  have ht6 : (t : Int) < n := by omega
                  clear hkt ht2
                  go_wp2
                  go_roundw
                  case rel => exact ⟨k + 1, by simp, by omega, by first | rfl | trivial⟩
                  case measure => simp [intOf]; omega
          · have hr' : (reach l).getD i false = false := by simpa using hr
            rw [hr'] at rc
            have HE' : Hid (∀ k, k < i + 1 → (reach l).getD k false = true → (l[k]!).op = 7 → 1 ≤ E) := Lib.hid (fun k hk h1 h2 => by
              by_cases e : k = i
              · subst e; rw [hr'] at h1; cases h1
              · exact HE.out k (by omega) h1 h2)
            have htl0 : (0 : Int) ≤ ts.length := by omega
            clear hr hr' HTS HNI kc
            go_wp2_with fail
            go_loopw [8] (fun v wr => v = .int .i64 0 ∧ wr = w3) (fun v _ => 0)
            case atStart => exact ⟨rfl, rfl⟩
            case round =>
              obtain ⟨rfl, rfl⟩ := hrel
              have ei := HEI.out
              by_cases hz : (0 : Int) < ts.length
              · go_wp2
                go_roundw
                case rel => exact ⟨i + 1, E, by simp, rfl, by omega, by omega, HE', HBI.out⟩
                case measure => simp [intOf]; omega
              · go_wp2
                go_roundw
                case rel => exact ⟨i + 1, E, by simp, rfl, by omega, by omega, HE', HBI.out⟩
                case measure => simp [intOf]; omega
    · have HF : Hid (fineB l = false) := Lib.hid (by simpa using hf)
      clear hf
      go_enter Try.func8, Try.ntmps8
      go_wp2_with fail
      refine (awake_any _).mono ?_
      rintro e w1 ⟨rfl, hb⟩
      have HB := hb
      have HS := Lib.hid (HS.out.mono InstR.mono hb)
      clear hb
      go_wp2_with fail
      refine (Fine_any _ _ _ l false _ HS.out hn HF).mono ?_
      rintro e w2 ⟨rfl, hb⟩
      have HB := HB.trans hb
      clear hb
      go_wp2_with fail
      go_ret
      exact ⟨rfl, HB⟩
end Go.Proofs.Ytpfnjbebfihkeaa
