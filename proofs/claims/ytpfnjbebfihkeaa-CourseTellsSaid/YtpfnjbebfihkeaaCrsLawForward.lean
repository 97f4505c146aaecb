/- CourseForward's walk. -/
import Derived.Test.YtpfnjbebfihkeaaCrs9
import Derived.Deep.QuietTactic
import Derived.BigQuiet
set_option linter.unusedVariables false
set_option linter.unusedSimpArgs false
namespace Go.Proofs.Ytpfnjbebfihkeaa
open Go.RowKit

def fromB (l : List InstD) (R : List Bool) (i k : Nat) : Bool := decide (i = 0) || (List.range k).any fun q => R.getD q false && (nxt l[q]! q).any fun t => decide (t = i)
theorem fromB_succ (l : List InstD) (R : List Bool) (i k : Nat) : fromB l R i (k + 1) = (fromB l R i k || (R.getD k false && (nxt l[k]! k).any fun t => decide (t = i))) := by
  unfold fromB
  rw [List.range_succ, List.any_append, Bool.or_assoc]
  simp
theorem fromB_all {l : List InstD} {i : Nat} (hi : i < l.length) : fromB l (reach l) i i = (reach l).getD i false := by
  rw [Bool.eq_iff_iff, reach_get l hi]
  unfold fromB
  simp only [Bool.or_eq_true, decide_eq_true_eq, List.any_eq_true, List.mem_range, Bool.and_eq_true]
  constructor
  · rintro (h | ⟨q, hq, h1, t, ht, rfl⟩)
    · exact .inl h
    · exact .inr ⟨q, hq, h1, ht⟩
  · rintro (h | ⟨k, hk, h1, h2⟩)
    · exact .inl h
    · exact .inr ⟨k, hk, h1, i, h2, rfl⟩
theorem nxt_cases (i : InstD) (k : Nat) : nxt i k = [] ∨ (∃ a, nxt i k = [a] ∧ k < a) ∨ ∃ a b, nxt i k = [a, b] ∧ k < a ∧ a < b := by
  have hg : ∀ t ∈ nxt i k, k < t := fun t ht => nxt_gt ht
  unfold nxt at hg ⊢
  split
  · exact .inl rfl
  · split
    · exact .inr (.inl ⟨_, rfl, by omega⟩)
    · split
      · exact .inr (.inr ⟨_, _, rfl, by omega, by omega⟩)
      · exact .inr (.inl ⟨_, rfl, by omega⟩)
theorem nextR_in {l : List InstD} {k : Nat} (hm : crsMay l = true) (hk : k < l.length) : nextR l k = nxt l[k]! k := by
  unfold nextR
  rw [if_pos ⟨hm, by omega, by omega⟩, Int.toNat_natCast]
theorem nextR_out {l : List InstD} {p : Int} (h : p < 0 ∨ (l.length : Int) ≤ p) : nextR l p = [] := by
  unfold nextR
  rw [if_neg (by omega)]
/-- The numbers that 'Next' hands over, each in its cell. -/
theorem ints_cells {w : World} {A : Option Addr} {c : Nat} {ts : List Nat} (h : Sl (IntR .i64) 1 w A c (ints ts)) (hp : 0 < ts.length) : ∃ b o, A = some ⟨b, o, none⟩ ∧ ∀ j (hj : j < ts.length), w.cell? ⟨b, o + j, none⟩ = some (.int .i64 (ts[j] : Int)) := by
  obtain ⟨b, o, rfl, hc⟩ := h.int_cell (by simp [ints]; exact hp)
  refine ⟨b, o, rfl, fun j hj => ?_⟩
  have := (hc j (by simp [ints]; exact hj)).1
  rw [this]
  simp [ints, List.getD_eq_getElem?_getD, hj]

theorem ibeq (i : Nat) : ((i : Int) == 0) = decide (i = 0) := by
  rw [Bool.eq_iff_iff]
  simp
set_option maxHeartbeats 4000000 in
set_option maxRecDepth 100000 in
theorem CourseForward_walk (A : Option Addr) (cap : Nat) (l : List InstD) (W : World) (hl : Sl InstR 7 W A cap l) :
    Calls Try.prog 4 #[.slice A l.length cap] W fun e w' => e = .returned (.bool true) ∧ Bel W w' := by
  have HS := Lib.hid hl
  obtain ⟨n, hn0⟩ : ∃ n, l.length = n := ⟨_, rfl⟩
  have hn := Lib.hid hn0
  rw [hn0]
  have hbig : n ≤ 9223372036854775807 := by rw [← hn0]; have := hl.le; have := hl.big; simp only [maxLen] at this; omega
  have HBIG := Lib.hid hbig
  clear hl hn0 hbig
  by_cases h80 : (80 : Int) < n
  · go_enter Try.func4, Try.ntmps4
    go_wp2_with fail
    refine (awake_any _).mono ?_
    rintro e w1 ⟨rfl, hb⟩
    go_wp2_with fail
    go_ret
    exact ⟨rfl, hb⟩
  · by_cases hm : crsMay l = true
    · have HM := Lib.hid hm
      obtain ⟨m0, m1, -⟩ := crsMay_facts hm
      rw [hn.out] at m0 m1
      have hn0' : (0 : Int) < n := by omega
      have t0 : ((n : Int) != (n : Int)) = false := by simp
      have HRL : Hid ((reach l).length = n) := Lib.hid (by rw [reach_length, hn.out])
      clear hm
      go_enter Try.func4, Try.ntmps4
      go_wp2_with fail
      refine (awake_any _).mono ?_
      rintro e w1 ⟨rfl, hb⟩
      have HB := hb
      have HS := Lib.hid (HS.out.mono InstR.mono hb)
      clear hb
      go_wp2_with fail
      refine (Reach_any _ _ _ _ (reach l) _ HS.out hn (Lib.hid (by unfold reachR; rw [if_pos HM.out]))).mono ?_
      rw [HRL.out]
      rintro e w2 ⟨A2, c2, rfl, s2, hb⟩
      have HB := HB.trans hb
      have HS := Lib.hid (HS.out.mono InstR.mono hb)
      obtain ⟨b2, o2, rfl, hc2⟩ := s2.bool_cell (by rw [HRL.out]; exact m0)
      have HC2 : Hid (∀ i, i < n → w2.cell? ⟨b2, o2 + i, none⟩ = some (.bool ((reach l).getD i false))) := Lib.hid (fun i hi => hc2 i (by rw [HRL.out]; exact hi))
      have rc0 := HC2.out 0 m0
      rw [reach_zero (by rw [hn.out]; exact m0), Nat.add_zero] at rc0
      clear hb s2 hc2
      go_wp2_with fail
      clear rc0
      go_loopw [5] (fun v wr => ∃ i : Nat, v = .int .i64 i ∧ i ≤ n ∧ Bel w2 wr) (fun v _ => n - (intOf v).toNat)
      case atStart => exact ⟨0, rfl, Nat.zero_le _, Bel.refl _⟩
      case round =>
        obtain ⟨i, rfl, hi, hbi⟩ := hrel
        have HBw := HB.trans hbi
        have HSr := Lib.hid (HS.out.mono InstR.mono hbi)
        by_cases hin : i = n
        · subst hin
          go_wp2_with fail
          refine (Next_any _ _ _ l (-1) [] _ HSr.out hn (Lib.hid (nextR_out (.inl (by omega))))).mono ?_
          rintro e w3 ⟨A3, c3, rfl, s3, hfr, hb3⟩
          have HSr := Lib.hid (HSr.out.mono InstR.mono hb3)
          have HBw := HBw.trans hb3
          clear s3 hfr hb3
          go_wp2_with fail
          refine (Next_any _ _ _ l i [] _ HSr.out hn (Lib.hid (nextR_out (.inr (by rw [hn.out]; omega))))).mono ?_
          rintro e w4 ⟨A4, c4, rfl, s4, hfr, hb4⟩
          have HBw := HBw.trans hb4
          clear s4 hfr hb4
          go_wp2_with fail
          go_ret
          exact ⟨rfl, HBw⟩
        · have hi1 : i < n := by omega
          have hi2 : (i : Int) < n := by omega
          have i0 : 0 ≤ (i : Int) := by omega
          have ei : IntKind.i64.wrap ((i : Int) + 1) = (i : Int) + 1 := wrap_i64 (by omega) (by omega)
          have hil : i < l.length := by rw [hn.out]; exact hi1
          obtain ⟨ts, hts⟩ : ∃ ts, Hid (nxt l[i]! i = ts) := ⟨_, Lib.hid rfl⟩
          have hcs := nxt_cases l[i]! i
          rw [hts.out] at hcs
          have HIL := Lib.hid hil
          have HEI := Lib.hid ei
          clear hil
          go_wp2_with fail
          refine (Next_any _ _ _ l i ts _ HSr.out hn (Lib.hid ((nextR_in HM.out HIL.out).trans hts.out))).mono ?_
          rintro e w3 ⟨A3, c3, rfl, s3, -, hb3⟩
          have HSr := Lib.hid (HSr.out.mono InstR.mono hb3)
          have HBw := HBw.trans hb3
          have hbi := hbi.trans hb3
          have S3 := Lib.hid s3
          clear s3 hb3
          have HBI := Lib.hid hbi
          clear hbi hts ei
          rcases hcs with rfl | ⟨t1, rfl, ht1⟩ | ⟨t1, t2, rfl, ht1, ht2⟩
          · go_wp2_with fail
            go_quiet (fail)
            go_wp2_with fail
            go_loopw [7, 8] (fun f kv wr => ∃ k : Nat, kv = .int .i64 k ∧ k ≤ i ∧ f = .bool (fromB l (reach l) i k) ∧ Bel w2 wr) (fun _ kv _ => i - (intOf kv).toNat)
            case atStart => exact ⟨0, rfl, Nat.zero_le _, by rw [ibeq]; simp [fromB], by repeat (first | exact HBI.out | apply Bel.drew | apply Bel.drewN)⟩
            case round =>
              obtain ⟨k, rfl, hk, rfl, hbk⟩ := hrel
              obtain ⟨F0, hF0⟩ : ∃ F0, Hid (fromB l (reach l) i k = F0) := ⟨_, Lib.hid rfl⟩
              rw [hF0.out]
              have HBk := HB.trans hbk
              have HSk := Lib.hid (HS.out.mono InstR.mono hbk)
              by_cases hki : k = i
              · subst hki
                have rc := hbk.cell (HC2.out k hi1)
                have hFR : (reach l).getD k false = F0 := by rw [← hF0.out, fromB_all HIL.out]
                rw [hFR] at rc
                have ei := HEI.out
                clear hFR hF0
                cases F0
                · go_wp2
                  go_roundw
                  case rel => exact ⟨k + 1, by simp, by omega, hbk⟩
                  case measure => simp [intOf]; omega
                · go_wp2
                  go_roundw
                  case rel => exact ⟨k + 1, by simp, by omega, hbk⟩
                  case measure => simp [intOf]; omega
              · have hk1 : k < i := by omega
                have hk2 : (k : Int) < i := by omega
                have k0 : 0 ≤ (k : Int) := by omega
                have hkn : (k : Int) < n := by omega
                have HEK : Hid (IntKind.i64.wrap ((k : Int) + 1) = (k : Int) + 1) := Lib.hid (wrap_i64 (by omega) (by omega))
                have HKL : Hid (k < l.length) := Lib.hid (by rw [hn.out]; omega)
                obtain ⟨us, hus⟩ : ∃ us, Hid (nxt l[k]! k = us) := ⟨_, Lib.hid rfl⟩
                have hul : us.length ≤ 2 := by rw [← hus.out]; exact nxt_two _ _
                have hFS := fromB_succ l (reach l) i k
                rw [hF0.out, hus.out] at hFS
                obtain ⟨rk, hrk⟩ : ∃ rk, Hid ((reach l).getD k false = rk) := ⟨_, Lib.hid rfl⟩
                rw [hrk.out] at hFS
                have HFS := Lib.hid hFS
                clear hFS hF0
                go_wp2_with fail
                refine (Next_any _ _ _ l k us _ HSk.out hn (Lib.hid ((nextR_in HM.out HKL.out).trans hus.out))).mono ?_
                rintro e w5 ⟨A5, c5, rfl, s5, -, hb5⟩
                have hbk := hbk.trans hb5
                have S5 := Lib.hid s5
                clear s5 hb5 hus
                go_wp2_with fail
                go_loopw [7, 10] (fun f jv wr => ∃ j : Nat, jv = .int .i64 j ∧ j ≤ us.length ∧ f = .bool (F0 || (rk && (us.take j).any fun t => decide (t = i))) ∧ Bel w5 wr) (fun _ jv _ => us.length - (intOf jv).toNat)
                case atStart => exact ⟨0, rfl, Nat.zero_le _, by simp, Bel.refl _⟩
                case round =>
                  obtain ⟨j, rfl, hj, rfl, hbj⟩ := hrel
                  have HBJ := Lib.hid (hbk.trans hbj)
                  have ej : IntKind.i64.wrap ((j : Int) + 1) = (j : Int) + 1 := wrap_i64 (by omega) (by omega)
                  by_cases hju : j = us.length
                  · subst hju
                    rw [List.take_length]
                    obtain ⟨F1, hF1⟩ : ∃ F1, Hid ((F0 || (rk && us.any fun t => decide (t = i))) = F1) := ⟨_, Lib.hid rfl⟩
                    rw [hF1.out]
                    have ek := HEK.out
                    clear ej
                    go_wp2
                    go_roundw
                    case rel => exact ⟨k + 1, by simp, by omega, by rw [HFS.out, hF1.out], HBJ.out⟩
                    case measure => simp [intOf]; omega
                  · have hj1 : j < us.length := by omega
                    have hj2 : (j : Int) < us.length := by omega
                    have j0 : 0 ≤ (j : Int) := by omega
                    obtain ⟨b5, o5, rfl, hc5⟩ := ints_cells S5.out (by omega)
                    have d5 := hbj.cell (hc5 j hj1)
                    have rk5 := HBJ.out.cell (HC2.out k (by omega))
                    rw [hrk.out] at rk5
                    have hts : us.take (j + 1) = us.take j ++ [us[j]] := by rw [List.take_append_getElem]
                    have hst : ((us.take (j + 1)).any fun t => decide (t = i)) = (((us.take j).any fun t => decide (t = i)) || decide (us[j] = i)) := by rw [hts, List.any_append, List.any_cons, List.any_nil, Bool.or_false]
                    have HST := Lib.hid hst
                    obtain ⟨F1, hF1⟩ : ∃ F1, Hid (((us.take j).any fun t => decide (t = i)) = F1) := ⟨_, Lib.hid rfl⟩
                    rw [hF1.out]
                    generalize us[j] = t at *
                    clear hc5 hts hst
                    cases F0
                    · cases rk
                      · simp only [Bool.false_or, Bool.false_and]
                        go_wp2
                        go_roundw
                        case rel => exact ⟨j + 1, by simp, by omega, by simp, hbj⟩
                        case measure => simp [intOf]; omega
                      · simp only [Bool.false_or, Bool.true_and]
                        cases F1
                        · by_cases hti : t = i
                          · subst hti
                            go_wp2
                            go_roundw
                            case rel => exact ⟨j + 1, by simp, by omega, by rw [HST.out, hF1.out]; simp, hbj⟩
                            case measure => simp [intOf]; omega
                          · have hti' : ((t : Int) == (i : Int)) = false := by simp; omega
                            go_wp2
                            go_roundw
                            case rel => exact ⟨j + 1, by simp, by omega, by rw [HST.out, hF1.out]; simp [hti], hbj⟩
                            case measure => simp [intOf]; omega
                        · go_wp2
                          go_roundw
                          case rel => exact ⟨j + 1, by simp, by omega, by rw [HST.out, hF1.out]; simp, hbj⟩
                          case measure => simp [intOf]; omega
                    · simp only [Bool.true_or]
                      go_wp2
                      go_roundw
                      case rel => exact ⟨j + 1, by simp, by omega, by simp, hbj⟩
                      case measure => simp [intOf]; omega
          · obtain ⟨b3, o3, rfl, hc3⟩ := ints_cells S3.out (by simp)
            simp only [List.length_cons, List.length_nil, Nat.zero_add, Nat.reduceAdd]
            have d0 := hc3 0 (by simp)
            simp only [Nat.add_zero, List.getElem_cons_zero] at d0
            have ht1' : ¬ (t1 : Int) ≤ (i : Int) := by omega
            clear hc3 S3
            go_wp2_with fail
            go_quiet (fail)
            go_wp2_with fail
            simp only [show ¬ t1 ≤ i by omega, decide_false]
            clear d0 ht1 ht1'
            go_loopw [7, 8] (fun f kv wr => ∃ k : Nat, kv = .int .i64 k ∧ k ≤ i ∧ f = .bool (fromB l (reach l) i k) ∧ Bel w2 wr) (fun _ kv _ => i - (intOf kv).toNat)
            case atStart => exact ⟨0, rfl, Nat.zero_le _, by rw [ibeq]; simp [fromB], by repeat (first | exact HBI.out | apply Bel.drew | apply Bel.drewN)⟩
            case round =>
              obtain ⟨k, rfl, hk, rfl, hbk⟩ := hrel
              obtain ⟨F0, hF0⟩ : ∃ F0, Hid (fromB l (reach l) i k = F0) := ⟨_, Lib.hid rfl⟩
              rw [hF0.out]
              have HBk := HB.trans hbk
              have HSk := Lib.hid (HS.out.mono InstR.mono hbk)
              by_cases hki : k = i
              · subst hki
                have rc := hbk.cell (HC2.out k hi1)
                have hFR : (reach l).getD k false = F0 := by rw [← hF0.out, fromB_all HIL.out]
                rw [hFR] at rc
                have ei := HEI.out
                clear hFR hF0
                cases F0
                · go_wp2
                  go_roundw
                  case rel => exact ⟨k + 1, by simp, by omega, hbk⟩
                  case measure => simp [intOf]; omega
                · go_wp2
                  go_roundw
                  case rel => exact ⟨k + 1, by simp, by omega, hbk⟩
                  case measure => simp [intOf]; omega
              · have hk1 : k < i := by omega
                have hk2 : (k : Int) < i := by omega
                have k0 : 0 ≤ (k : Int) := by omega
                have hkn : (k : Int) < n := by omega
                have HEK : Hid (IntKind.i64.wrap ((k : Int) + 1) = (k : Int) + 1) := Lib.hid (wrap_i64 (by omega) (by omega))
                have HKL : Hid (k < l.length) := Lib.hid (by rw [hn.out]; omega)
                obtain ⟨us, hus⟩ : ∃ us, Hid (nxt l[k]! k = us) := ⟨_, Lib.hid rfl⟩
                have hul : us.length ≤ 2 := by rw [← hus.out]; exact nxt_two _ _
                have hFS := fromB_succ l (reach l) i k
                rw [hF0.out, hus.out] at hFS
                obtain ⟨rk, hrk⟩ : ∃ rk, Hid ((reach l).getD k false = rk) := ⟨_, Lib.hid rfl⟩
                rw [hrk.out] at hFS
                have HFS := Lib.hid hFS
                clear hFS hF0
                go_wp2_with fail
                refine (Next_any _ _ _ l k us _ HSk.out hn (Lib.hid ((nextR_in HM.out HKL.out).trans hus.out))).mono ?_
                rintro e w5 ⟨A5, c5, rfl, s5, -, hb5⟩
                have hbk := hbk.trans hb5
                have S5 := Lib.hid s5
                clear s5 hb5 hus
                go_wp2_with fail
                go_loopw [7, 10] (fun f jv wr => ∃ j : Nat, jv = .int .i64 j ∧ j ≤ us.length ∧ f = .bool (F0 || (rk && (us.take j).any fun t => decide (t = i))) ∧ Bel w5 wr) (fun _ jv _ => us.length - (intOf jv).toNat)
                case atStart => exact ⟨0, rfl, Nat.zero_le _, by simp, Bel.refl _⟩
                case round =>
                  obtain ⟨j, rfl, hj, rfl, hbj⟩ := hrel
                  have HBJ := Lib.hid (hbk.trans hbj)
                  have ej : IntKind.i64.wrap ((j : Int) + 1) = (j : Int) + 1 := wrap_i64 (by omega) (by omega)
                  by_cases hju : j = us.length
                  · subst hju
                    rw [List.take_length]
                    obtain ⟨F1, hF1⟩ : ∃ F1, Hid ((F0 || (rk && us.any fun t => decide (t = i))) = F1) := ⟨_, Lib.hid rfl⟩
                    rw [hF1.out]
                    have ek := HEK.out
                    clear ej
                    go_wp2
                    go_roundw
                    case rel => exact ⟨k + 1, by simp, by omega, by rw [HFS.out, hF1.out], HBJ.out⟩
                    case measure => simp [intOf]; omega
                  · have hj1 : j < us.length := by omega
                    have hj2 : (j : Int) < us.length := by omega
                    have j0 : 0 ≤ (j : Int) := by omega
                    obtain ⟨b5, o5, rfl, hc5⟩ := ints_cells S5.out (by omega)
                    have d5 := hbj.cell (hc5 j hj1)
                    have rk5 := HBJ.out.cell (HC2.out k (by omega))
                    rw [hrk.out] at rk5
                    have hts : us.take (j + 1) = us.take j ++ [us[j]] := by rw [List.take_append_getElem]
                    have hst : ((us.take (j + 1)).any fun t => decide (t = i)) = (((us.take j).any fun t => decide (t = i)) || decide (us[j] = i)) := by rw [hts, List.any_append, List.any_cons, List.any_nil, Bool.or_false]
                    have HST := Lib.hid hst
                    obtain ⟨F1, hF1⟩ : ∃ F1, Hid (((us.take j).any fun t => decide (t = i)) = F1) := ⟨_, Lib.hid rfl⟩
                    rw [hF1.out]
                    generalize us[j] = t at *
                    clear hc5 hts hst
                    cases F0
                    · cases rk
                      · simp only [Bool.false_or, Bool.false_and]
                        go_wp2
                        go_roundw
                        case rel => exact ⟨j + 1, by simp, by omega, by simp, hbj⟩
                        case measure => simp [intOf]; omega
                      · simp only [Bool.false_or, Bool.true_and]
                        cases F1
                        · by_cases hti : t = i
                          · subst hti
                            go_wp2
                            go_roundw
                            case rel => exact ⟨j + 1, by simp, by omega, by rw [HST.out, hF1.out]; simp, hbj⟩
                            case measure => simp [intOf]; omega
                          · have hti' : ((t : Int) == (i : Int)) = false := by simp; omega
                            go_wp2
                            go_roundw
                            case rel => exact ⟨j + 1, by simp, by omega, by rw [HST.out, hF1.out]; simp [hti], hbj⟩
                            case measure => simp [intOf]; omega
                        · go_wp2
                          go_roundw
                          case rel => exact ⟨j + 1, by simp, by omega, by rw [HST.out, hF1.out]; simp, hbj⟩
                          case measure => simp [intOf]; omega
                    · simp only [Bool.true_or]
                      go_wp2
                      go_roundw
                      case rel => exact ⟨j + 1, by simp, by omega, by simp, hbj⟩
                      case measure => simp [intOf]; omega
          · obtain ⟨b3, o3, rfl, hc3⟩ := ints_cells S3.out (by simp)
            simp only [List.length_cons, List.length_nil, Nat.zero_add, Nat.reduceAdd]
            have d0 := hc3 0 (by simp)
            have d1 := hc3 1 (by simp)
            simp only [Nat.add_zero, List.getElem_cons_zero, List.getElem_cons_succ] at d0 d1
            have ht1' : ¬ (t1 : Int) ≤ (i : Int) := by omega
            have ht2' : ¬ (t2 : Int) ≤ (t1 : Int) := by omega
            clear hc3 S3
            go_wp2_with fail
            go_quiet (fail)
            go_wp2_with fail
            simp only [show ¬ t1 ≤ i by omega, show ¬ t2 ≤ t1 by omega, decide_false, Bool.or_self, Bool.or_false, or_self, or_false]
            clear d0 d1 ht1 ht1' ht2 ht2'
            go_loopw [7, 8] (fun f kv wr => ∃ k : Nat, kv = .int .i64 k ∧ k ≤ i ∧ f = .bool (fromB l (reach l) i k) ∧ Bel w2 wr) (fun _ kv _ => i - (intOf kv).toNat)
            case atStart => exact ⟨0, rfl, Nat.zero_le _, by rw [ibeq]; simp [fromB], by repeat (first | exact HBI.out | apply Bel.drew | apply Bel.drewN)⟩
            case round =>
              obtain ⟨k, rfl, hk, rfl, hbk⟩ := hrel
              obtain ⟨F0, hF0⟩ : ∃ F0, Hid (fromB l (reach l) i k = F0) := ⟨_, Lib.hid rfl⟩
              rw [hF0.out]
              have HBk := HB.trans hbk
              have HSk := Lib.hid (HS.out.mono InstR.mono hbk)
              by_cases hki : k = i
              · subst hki
                have rc := hbk.cell (HC2.out k hi1)
                have hFR : (reach l).getD k false = F0 := by rw [← hF0.out, fromB_all HIL.out]
                rw [hFR] at rc
                have ei := HEI.out
                clear hFR hF0
                cases F0
                · go_wp2
                  go_roundw
                  case rel => exact ⟨k + 1, by simp, by omega, hbk⟩
                  case measure => simp [intOf]; omega
                · go_wp2
                  go_roundw
                  case rel => exact ⟨k + 1, by simp, by omega, hbk⟩
                  case measure => simp [intOf]; omega
              · have hk1 : k < i := by omega
                have hk2 : (k : Int) < i := by omega
                have k0 : 0 ≤ (k : Int) := by omega
                have hkn : (k : Int) < n := by omega
                have HEK : Hid (IntKind.i64.wrap ((k : Int) + 1) = (k : Int) + 1) := Lib.hid (wrap_i64 (by omega) (by omega))
                have HKL : Hid (k < l.length) := Lib.hid (by rw [hn.out]; omega)
                obtain ⟨us, hus⟩ : ∃ us, Hid (nxt l[k]! k = us) := ⟨_, Lib.hid rfl⟩
                have hul : us.length ≤ 2 := by rw [← hus.out]; exact nxt_two _ _
                have hFS := fromB_succ l (reach l) i k
                rw [hF0.out, hus.out] at hFS
                obtain ⟨rk, hrk⟩ : ∃ rk, Hid ((reach l).getD k false = rk) := ⟨_, Lib.hid rfl⟩
                rw [hrk.out] at hFS
                have HFS := Lib.hid hFS
                clear hFS hF0
                go_wp2_with fail
                refine (Next_any _ _ _ l k us _ HSk.out hn (Lib.hid ((nextR_in HM.out HKL.out).trans hus.out))).mono ?_
                rintro e w5 ⟨A5, c5, rfl, s5, -, hb5⟩
                have hbk := hbk.trans hb5
                have S5 := Lib.hid s5
                clear s5 hb5 hus
                go_wp2_with fail
                go_loopw [7, 10] (fun f jv wr => ∃ j : Nat, jv = .int .i64 j ∧ j ≤ us.length ∧ f = .bool (F0 || (rk && (us.take j).any fun t => decide (t = i))) ∧ Bel w5 wr) (fun _ jv _ => us.length - (intOf jv).toNat)
                case atStart => exact ⟨0, rfl, Nat.zero_le _, by simp, Bel.refl _⟩
                case round =>
                  obtain ⟨j, rfl, hj, rfl, hbj⟩ := hrel
                  have HBJ := Lib.hid (hbk.trans hbj)
                  have ej : IntKind.i64.wrap ((j : Int) + 1) = (j : Int) + 1 := wrap_i64 (by omega) (by omega)
                  by_cases hju : j = us.length
                  · subst hju
                    rw [List.take_length]
                    obtain ⟨F1, hF1⟩ : ∃ F1, Hid ((F0 || (rk && us.any fun t => decide (t = i))) = F1) := ⟨_, Lib.hid rfl⟩
                    rw [hF1.out]
                    have ek := HEK.out
                    clear ej
                    go_wp2
                    go_roundw
                    case rel => exact ⟨k + 1, by simp, by omega, by rw [HFS.out, hF1.out], HBJ.out⟩
                    case measure => simp [intOf]; omega
                  · have hj1 : j < us.length := by omega
                    have hj2 : (j : Int) < us.length := by omega
                    have j0 : 0 ≤ (j : Int) := by omega
                    obtain ⟨b5, o5, rfl, hc5⟩ := ints_cells S5.out (by omega)
                    have d5 := hbj.cell (hc5 j hj1)
                    have rk5 := HBJ.out.cell (HC2.out k (by omega))
                    rw [hrk.out] at rk5
                    have hts : us.take (j + 1) = us.take j ++ [us[j]] := by rw [List.take_append_getElem]
                    have hst : ((us.take (j + 1)).any fun t => decide (t = i)) = (((us.take j).any fun t => decide (t = i)) || decide (us[j] = i)) := by rw [hts, List.any_append, List.any_cons, List.any_nil, Bool.or_false]
                    have HST := Lib.hid hst
                    obtain ⟨F1, hF1⟩ : ∃ F1, Hid (((us.take j).any fun t => decide (t = i)) = F1) := ⟨_, Lib.hid rfl⟩
                    rw [hF1.out]
                    generalize us[j] = t at *
                    clear hc5 hts hst
                    cases F0
                    · cases rk
                      · simp only [Bool.false_or, Bool.false_and]
                        go_wp2
                        go_roundw
                        case rel => exact ⟨j + 1, by simp, by omega, by simp, hbj⟩
                        case measure => simp [intOf]; omega
                      · simp only [Bool.false_or, Bool.true_and]
                        cases F1
                        · by_cases hti : t = i
                          · subst hti
                            go_wp2
                            go_roundw
                            case rel => exact ⟨j + 1, by simp, by omega, by rw [HST.out, hF1.out]; simp, hbj⟩
                            case measure => simp [intOf]; omega
                          · have hti' : ((t : Int) == (i : Int)) = false := by simp; omega
                            go_wp2
                            go_roundw
                            case rel => exact ⟨j + 1, by simp, by omega, by rw [HST.out, hF1.out]; simp [hti], hbj⟩
                            case measure => simp [intOf]; omega
                        · go_wp2
                          go_roundw
                          case rel => exact ⟨j + 1, by simp, by omega, by rw [HST.out, hF1.out]; simp, hbj⟩
                          case measure => simp [intOf]; omega
                    · simp only [Bool.true_or]
                      go_wp2
                      go_roundw
                      case rel => exact ⟨j + 1, by simp, by omega, by simp, hbj⟩
                      case measure => simp [intOf]; omega
    · have HM : Hid (crsMay l = false) := Lib.hid (by simpa using hm)
      have HNR : ∀ p, nextR l p = [] := fun p => by unfold nextR; rw [if_neg (by rw [HM.out]; simp)]
      clear hm
      go_enter Try.func4, Try.ntmps4
      go_wp2_with fail
      refine (awake_any _).mono ?_
      rintro e w1 ⟨rfl, hb⟩
      have HB := hb
      have HS := Lib.hid (HS.out.mono InstR.mono hb)
      clear hb
      go_wp2_with fail
      refine (Reach_any _ _ _ _ [] _ HS.out hn (Lib.hid (by unfold reachR; rw [if_neg (by rw [HM.out]; simp)]))).mono ?_
      rintro e w2 ⟨A2, c2, rfl, s2, hb⟩
      have HB := HB.trans hb
      have HS := Lib.hid (HS.out.mono InstR.mono hb)
      have HNR := Lib.hid HNR
      clear hb s2
      go_wp2_with fail
      go_loopw [5] (fun v wr => v = .int .i64 0 ∧ wr = w2) (fun v _ => 0)
      case atStart => exact ⟨rfl, rfl⟩
      case round =>
        obtain ⟨rfl, rfl⟩ := hrel
        go_wp2_with fail
        refine (Next_any _ _ _ l (-1) [] _ HS.out hn (Lib.hid (HNR.out _))).mono ?_
        rintro e w3 ⟨A3, c3, rfl, s3, hfr, hb3⟩
        have HS := Lib.hid (HS.out.mono InstR.mono hb3)
        have HB := HB.trans hb3
        clear s3 hfr hb3
        go_wp2_with fail
        refine (Next_any _ _ _ l n [] _ HS.out hn (Lib.hid (HNR.out _))).mono ?_
        rintro e w4 ⟨A4, c4, rfl, s4, hfr, hb4⟩
        have HB := HB.trans hb4
        clear s4 hfr hb4
        go_wp2_with fail
        go_ret
        exact ⟨rfl, HB⟩
end Go.Proofs.Ytpfnjbebfihkeaa
