/- CourseTail's walk. -/
import Derived.Test.YtpfnjbebfihkeaaCrsLawForward
set_option linter.unusedVariables false
set_option linter.unusedSimpArgs false
namespace Go.Proofs.Ytpfnjbebfihkeaa
open Go.RowKit

theorem run_append_empty {P : Program} {w : World} (t ty e : TypeId) (i : TypeInfo) (ht : P.underlying t = some (.slice e)) (hi : P.info? e = some i) (A : Option Addr) (c g n cap : Nat) (hnc : n ≤ cap) :
    (Builtin.append_ #[t, t] ty #[.slice (some ⟨g, 0, none⟩) n cap, .slice A 0 c]).run P w = .ok (.slice (some ⟨g, 0, none⟩) n cap) w := by
  cases A <;> simp [Builtin.append_, run_underlying ht, sizeOf, typeInfo, hi, Builtin.lenOf, Builtin.firstCells, hnc, storeCells, loadCells, loadCellsFrom]
theorem at_append_empty {P : Program} {ops : Array Oper} {rest : List Oper} {a : Act} {W : World} {Q : Exit → Act → World → Prop} {dst : Option Tmp} {tt : TypeId} {pos : String} {after : Array Edge} {s x : Operand} {t t' : TypeId} {z : Value} {size bytes : Nat}
    (e : TypeId) (ht : P.underlying t = some (.slice e)) (hinfo : (P.info? e).map (fun i => (i.zero, i.size, i.bytes)) = some (some z, size, bytes))
    (g n cap : Nat) (hs : a.eval s = .slice (some ⟨g, 0, none⟩) n cap) (hnc : n ≤ cap) (A : Option Addr) (c : Nat) (hx : a.eval x = .slice A 0 c) (htt : t' = t)
    (h : wpList P ops Q rest (a.put dst (.slice (some ⟨g, 0, none⟩) n cap)) W) :
    wpList P ops Q ({ dst := dst, op := .call { callee := .builtin .append, args := #[s, x], argTypes := #[t, t'] }, type := tt, pos := pos, after := after, guard := none } :: rest) a W := by
  subst htt
  obtain ⟨i0, hi, -⟩ := Option.map_eq_some_iff.1 hinfo
  refine wpList_plain rfl fun K hK => ?_
  have hr := run_append_empty (w := W) t' tt e i0 ht hi A c g n cap hnc
  unfold Oper.wp execOp
  simp only [resolve, invoke, builtin, Sem.run_bind, Sem.run_pure, Result.andThen_ok, List.map_toArray, List.map_cons, List.map_nil, hs, hx, hr]
  exact hK _ _ h
theorem flat_back (l : List InstD) : ∀ (j : Nat) (v : Value), (l.flatMap InstD.cells)[j]? = some v → j / 7 < l.length ∧ (InstD.cells l[j / 7]!)[j % 7]? = some v := by
  induction l with
  | nil => intro j v h; simp at h
  | cons x l ih =>
    intro j v hv
    have hl : (InstD.cells x).length = 7 := rfl
    rw [List.flatMap_cons] at hv
    by_cases hj : j < 7
    · rw [List.getElem?_append_left (by rw [hl]; omega)] at hv
      have e1 : j / 7 = 0 := by omega
      have e2 : j % 7 = j := by omega
      rw [e1, e2]
      exact ⟨by simp, by simpa using hv⟩
    · rw [List.getElem?_append_right (by rw [hl]; omega), hl] at hv
      obtain ⟨h1, h2⟩ := ih _ _ hv
      have e1 : j / 7 = (j - 7) / 7 + 1 := by omega
      have e2 : j % 7 = (j - 7) % 7 := by omega
      rw [e1, e2]
      exact ⟨by simp only [List.length_cons]; omega, by simpa using h2⟩
theorem insts_news {w : World} {b off c : Nat} {l : List InstD} (h : Sl InstR 7 w (some ⟨b, off, none⟩) c l) : ∀ j u, (l.flatMap InstD.cells)[j]? = some u → w.cell? ((⟨b, off, none⟩ : Addr).add j) = some u := by
  intro j u hu
  obtain ⟨h1, h2⟩ := flat_back l j u hu
  have := inst_cells h _ h1 _ _ h2
  rw [Go.WideShapes.add_plain]
  rw [show off + j = off + j / 7 * 7 + j % 7 by omega]
  exact this
theorem insts_one (l : List InstD) : ∀ u ∈ l.flatMap InstD.cells, u.oneCell' = true := by
  intro u hu
  obtain ⟨x, _, hx⟩ := List.mem_flatMap.1 hu
  simp only [InstD.cells, List.mem_cons, List.not_mem_nil, or_false] at hx
  rcases hx with rfl | rfl | rfl | rfl | rfl | rfl | rfl <;> rfl
theorem flat_length (l : List InstD) : (l.flatMap InstD.cells).length = l.length * 7 := by
  induction l with
  | nil => rfl
  | cons x l ih => rw [List.flatMap_cons, List.length_append, ih, List.length_cons, show (InstD.cells x).length = 7 from rfl]; omega
/-- A row of the call's own, read as a slice of instructions. -/
theorem own_insts {w : World} {b : Nat} {e : TypeId} {v : Value} {n : Nat} {l : List InstD} (h : w.ownsRow b e 7 v n (l.flatMap InstD.cells)) (hn : l.length = n) (hp : 0 < n) (hw : ∀ x ∈ l, x.Wf) : ∃ g c, v = .slice (some ⟨g, 0, none⟩) n c ∧ Sl InstR 7 w (some ⟨g, 0, none⟩) c l := by
  obtain ⟨h1, h2⟩ := h
  rcases h2 with ⟨rfl, rfl⟩ | ⟨g, cap, cur, rfl, hb, hh, hc, hm, hs, ht⟩
  · omega
  · refine ⟨g, cap, rfl, ⟨by omega, hm, fun i hi => ⟨g, 0, InstD.cells l[i], rfl, rfl, ⟨rfl, hw _ (List.getElem_mem hi)⟩, fun j v hv => ?_⟩⟩⟩
    have hj : j < 7 := (List.getElem?_eq_some_iff.1 hv).1
    have e1 := flat_get l i j v hi (by rw [getElem!_pos l i hi]; exact hv)
    rw [← ht, List.getElem?_take, if_pos (by omega)] at e1
    simp only [World.cell?, Nat.zero_add, hh]
    simpa using e1
theorem Sl.wfs {w : World} {A : Option Addr} {c : Nat} {l : List InstD} (h : Sl InstR 7 w A c l) : ∀ x ∈ l, x.Wf := by
  intro x hx
  obtain ⟨j, hj, rfl⟩ := List.mem_iff_getElem.1 hx
  obtain ⟨_, _, _, _, _, ⟨_, hw⟩, _⟩ := h.get j hj
  exact hw
theorem info_inst : (Try.prog.info? 53).map (fun i => (i.zero, i.size, i.bytes)) = some (some (.agg #[.int .i64 0, .int .i64 0, .int .i64 0, .int .i64 0, .bool false, .int .i64 0, .int .u32 0]), 7, 56) := by kernel_rfl

set_option maxHeartbeats 8000000 in
set_option maxRecDepth 100000 in
theorem CourseTail_walk (A : Option Addr) (cap : Nat) (l : List InstD) (A1 : Option Addr) (cap1 : Nat) (ml : List InstD) (W : World) (hl : Sl InstR 7 W A cap l) (hl1 : Sl InstR 7 W A1 cap1 ml) :
    Calls Try.prog 7 #[.slice A l.length cap, .slice A1 ml.length cap1] W fun e w' => e = .returned (.bool true) ∧ Bel W w' := by
  have HS := Lib.hid hl
  have HC := Lib.hid hl1
  obtain ⟨n, hn0⟩ : ∃ n, l.length = n := ⟨_, rfl⟩
  have hn := Lib.hid hn0
  obtain ⟨m, hm0⟩ : ∃ m, ml.length = m := ⟨_, rfl⟩
  have hm := Lib.hid hm0
  rw [hn0, hm0]
  clear hl hl1 hn0 hm0
  by_cases c1 : (30 : Int) < n
  · go_enter Try.func7, Try.ntmps7
    go_wp2_with fail
    refine (awake_any _).mono ?_
    rintro e w1 ⟨rfl, hb⟩
    go_wp2_with fail
    go_ret
    exact ⟨rfl, hb⟩
  by_cases c2 : (30 : Int) < m
  · go_enter Try.func7, Try.ntmps7
    go_wp2_with fail
    refine (awake_any _).mono ?_
    rintro e w1 ⟨rfl, hb⟩
    go_wp2_with fail
    go_ret
    exact ⟨rfl, hb⟩
  by_cases hcm : crsMay l = true
  · have HM := Lib.hid hcm
    have n0 : 0 < n := by rw [← hn.out]; exact (crsMay_facts hcm).1
    have n0' : ((n : Int) == 0) = false := by rw [beq_eq_false_iff_ne]; omega
    have n30 : n ≤ 30 := by omega
    have m30 : m ≤ 30 := by omega
    have HRL : Hid ((reach l).length = n) := Lib.hid (by rw [reach_length, hn.out])
    obtain ⟨b0, o0, rfl⟩ := HS.out.addr (by rw [hn.out]; exact n0)
    obtain ⟨f, hf⟩ : ∃ f, Hid (fineB l = f) := ⟨_, Lib.hid rfl⟩
    clear hcm
    go_enter Try.func7, Try.ntmps7
    go_wp2_with fail
    refine (awake_any _).mono ?_
    rintro e w1 ⟨rfl, hb⟩
    have HBw := hb
    have HS := Lib.hid (HS.out.mono InstR.mono hb)
    have HC := Lib.hid (HC.out.mono InstR.mono hb)
    clear hb
    go_wp2_with fail
    refine (Reach_any _ _ _ _ (reach l) _ HS.out hn (Lib.hid (by unfold reachR; rw [if_pos HM.out]))).mono ?_
    rw [HRL.out]
    rintro e w2 ⟨A2, c2', rfl, s2, hb⟩
    have HBw := HBw.trans hb
    have HS := Lib.hid (HS.out.mono InstR.mono hb)
    have HC := Lib.hid (HC.out.mono InstR.mono hb)
    clear s2 hb
    go_wp2_with fail
    refine (Fine_any _ _ _ l f _ HS.out hn hf).mono ?_
    rintro e w3 ⟨rfl, hb⟩
    have HBw := HBw.trans hb
    have HS := Lib.hid (HS.out.mono InstR.mono hb)
    have HC := Lib.hid (HC.out.mono InstR.mono hb)
    clear hb
    cases f
    · go_wp2_with fail
      go_ret
      exact ⟨rfl, HBw⟩
    · have HF := hf
      by_cases m0 : m = 0
      · subst m0
        have hml : ml = [] := List.eq_nil_of_length_eq_zero hm.out
        go_wp2_with (first | (refine at_append w3.heap.size 53 (.agg #[.int .i64 0, .int .i64 0, .int .i64 0, .int .i64 0, .bool false, .int .i64 0, .int .u32 0]) 7 56 Try.underlying22 info_inst rfl (by decide) (.slice none 0 0) 0 [] (by rfl) ⟨by simp, .inl ⟨rfl, rfl⟩⟩ ⟨b0, o0, none⟩ n cap (l.flatMap InstD.cells) (by rfl) (by rw [flat_length, hn.out]) (insts_news HS.out) (insts_one l) (by simp only [maxLen]; omega) (by omega) (Nat.le_refl _) w3 (Nat.le_refl _) (Bel.refl _) rfl ?_; intro v1 w4 own1 hgr1 hb4 hat1; rw [Nat.zero_add, List.nil_append] at own1; obtain ⟨g1, cp1, rfl, hsl1⟩ := own_insts own1 hn.out n0 HS.out.wfs; have hcp := hsl1.le; rw [hn.out] at hcp; have HSL := Lib.hid hsl1; have HOWN := Lib.hid own1; have HC4 := Lib.hid (HC.out.mono InstR.mono hb4); have hsz := hb4.size; have HB4 := Lib.hid hb4; clear hgr1 hat1 hsl1 own1 hb4) | (refine at_append_empty 53 Try.underlying22 info_inst g1 n cp1 (by rfl) hcp A1 cap1 (by rfl) rfl ?_))
        have hsr := HS.out.mono InstR.mono HB4.out
        obtain ⟨N, hNn⟩ : ∃ N, N = n := ⟨_, rfl⟩
        have hN : (l ++ ml).length = N := by rw [hml, List.append_nil, hn.out, hNn]
        have hall : Sl InstR 7 w4 (some ⟨g1, 0, none⟩) cp1 (l ++ ml) := by rw [hml, List.append_nil]; exact HSL.out
        have HBw := HBw.trans HB4.out
        clear hml hcp HC4 HSL HOWN hsz HB4
        generalize hq : Value.slice (some ⟨g1, 0, none⟩) n cp1 = VV
        rw [← hNn] at hq
        subst hq
        clear hNn
        have HALL := Lib.hid hall
        have HN := Lib.hid hN
        have HSr := Lib.hid hsr
        clear hall hN hsr
        by_cases hcm : crsMay (l ++ ml) = true
        · have HCM := Lib.hid hcm
          have HRA : Hid ((reach (l ++ ml)).length = N) := Lib.hid (by rw [reach_length, HN.out])
          have N0 : 0 < N := by rw [← HN.out]; exact (crsMay_facts hcm).1
          have N64 : N ≤ 64 := by rw [← HN.out]; exact (crsMay_facts hcm).2.1
          have N0' : ((N : Int) == 0) = false := by rw [beq_eq_false_iff_ne]; omega
          have tN : ((N : Int) != (N : Int)) = false := by simp
          have tn : ((n : Int) != (n : Int)) = false := by simp
          clear hcm
          go_wp2_with fail
          refine (Reach_any _ _ _ _ (reach (l ++ ml)) _ HALL.out HN (Lib.hid (by unfold reachR; rw [if_pos HCM.out]))).mono ?_
          rw [HRA.out]
          rintro e w5 ⟨A5, c5, rfl, s5, hb⟩
          have HBw := HBw.trans hb
          have HALL := Lib.hid (HALL.out.mono InstR.mono hb)
          have HSr := Lib.hid (HSr.out.mono InstR.mono hb)
          have S5 := Lib.hid s5
          clear s5 hb
          go_wp2_with fail
          refine (Reach_any _ _ _ _ (reach l) _ HSr.out hn (Lib.hid (by unfold reachR; rw [if_pos HM.out]))).mono ?_
          rw [HRL.out]
          rintro e w6 ⟨A6, c6, rfl, s6, hb⟩
          have HBw := HBw.trans hb
          have HALL := Lib.hid (HALL.out.mono InstR.mono hb)
          have HSr := Lib.hid (HSr.out.mono InstR.mono hb)
          obtain ⟨b5, o5, rfl, hc5⟩ := (S5.out.mono BoolR.mono hb).bool_cell (by rw [HRA.out]; exact N0)
          obtain ⟨b6, o6, rfl, hc6⟩ := s6.bool_cell (by rw [HRL.out]; exact n0)
          have HC5 : Hid (∀ i, i < N → w6.cell? ⟨b5, o5 + i, none⟩ = some (.bool ((reach (l ++ ml)).getD i false))) := Lib.hid (fun i hi => hc5 i (by rw [HRA.out]; exact hi))
          have HC6 : Hid (∀ i, i < n → w6.cell? ⟨b6, o6 + i, none⟩ = some (.bool ((reach l).getD i false))) := Lib.hid (fun i hi => hc6 i (by rw [HRL.out]; exact hi))
          clear s6 hb hc5 hc6 S5
          go_wp2_with fail
          go_loopw [9] (fun v wr => ∃ i : Nat, v = .int .i64 i ∧ i ≤ N ∧ Bel w6 wr) (fun v _ => N - (intOf v).toNat)
          case atStart => exact ⟨0, rfl, Nat.zero_le _, Bel.refl _⟩
          case round =>
            obtain ⟨i, rfl, hi, hbi⟩ := hrel
            by_cases hin : i = N
            · subst hin
              have HBz := HBw.trans hbi
              have HALL := Lib.hid (HALL.out.mono InstR.mono hbi)
              have HSr := Lib.hid (HSr.out.mono InstR.mono hbi)
              obtain ⟨r, hr⟩ : ∃ r, Hid (longR l [] = r) := ⟨_, Lib.hid rfl⟩
              have hr2 : Hid (longR (l ++ ml) [] = r) := Lib.hid (by
                rw [← hr.out]
                unfold longR
                rw [if_pos HCM.out, if_pos HM.out]
                exact cost_app HF.out HCM.out [] _ 0 rfl (by rw [hn.out]; exact n0) (reach_zero (by rw [hn.out]; exact n0)))
              go_wp2_with fail
              refine (Fine_any _ _ _ (l ++ ml) true _ HALL.out HN (Lib.hid (fine_app HF.out HCM.out))).mono ?_
              rintro e w7 ⟨rfl, hb⟩
              have HBz := HBz.trans hb
              have HALL := Lib.hid (HALL.out.mono InstR.mono hb)
              have HSr := Lib.hid (HSr.out.mono InstR.mono hb)
              clear hb
              go_wp2_with fail
              refine (Longest_any _ none _ _ _ 0 (l ++ ml) [] r _ HALL.out HN (Sl.nil _ _ _) (Lib.hid rfl) hr2).mono ?_
              rintro e w8 ⟨rfl, hb⟩
              have HBz := HBz.trans hb
              have HSr := Lib.hid (HSr.out.mono InstR.mono hb)
              clear hb
              go_wp2_with fail
              refine (Longest_any _ none _ _ _ 0 l [] r _ HSr.out hn (Sl.nil _ _ _) (Lib.hid rfl) hr).mono ?_
              rintro e w9 ⟨rfl, hb⟩
              have HBz := HBz.trans hb
              clear hb
              go_wp2_with fail
              go_ret
              exact ⟨by simp, HBz⟩
            · have hi1 : i < N := by omega
              have hi2 : (i : Int) < N := by omega
              have i0 : 0 ≤ (i : Int) := by omega
              have HEI : Hid (IntKind.i64.wrap ((i : Int) + 1) = (i : Int) + 1) := Lib.hid (wrap_i64 (by omega) (by omega))
              have hra := reach_app (m := ml) HF.out i (by rw [HN.out]; exact hi1)
              rw [hn.out] at hra
              have d5 := hbi.cell (HC5.out i hi1)
              have HBI := Lib.hid hbi
              clear hin
              by_cases hil : i < n
              · have hil1 : (i : Int) < n := by omega
                have hil2 : decide ((n : Int) ≤ (i : Int)) = false := decide_eq_false (by omega)
                have hil3 : decide (n ≤ i) = false := decide_eq_false (by omega)
                have d6 := hbi.cell (HC6.out i hil)
                have heq : (reach (l ++ ml)).getD i false = (reach l).getD i false := by
                  rw [Bool.eq_iff_iff, hra]
                  exact ⟨fun h => h.2, fun h => ⟨hil, h⟩⟩
                rw [heq] at d5
                generalize (reach l).getD i false = rv at *
                clear hra heq hbi
                cases rv
                · go_wp2_with fail
                  go_quiet (fail)
                  have ei := HEI.out
                  go_wp2
                  go_roundw
                  case rel => exact ⟨i + 1, by simp, by omega, by repeat (first | exact HBI.out | apply Bel.drew | apply Bel.drewN)⟩
                  case measure => simp [intOf]; omega
                · go_wp2_with fail
                  go_quiet (fail)
                  have ei := HEI.out
                  go_wp2
                  go_roundw
                  case rel => exact ⟨i + 1, by simp, by omega, by repeat (first | exact HBI.out | apply Bel.drew | apply Bel.drewN)⟩
                  case measure => simp [intOf]; omega
              · have hil1 : ¬ (i : Int) < n := by omega
                have hil2 : (n : Int) ≤ i := by omega
                have heq : (reach (l ++ ml)).getD i false = false := by
                  rw [Bool.eq_false_iff]
                  intro h
                  exact hil (hra.1 h).1
                rw [heq] at d5
                clear hra heq hbi
                go_wp2_with fail
                go_quiet (fail)
                have ei := HEI.out
                go_wp2
                go_roundw
                case rel => exact ⟨i + 1, by simp, by omega, by repeat (first | exact HBI.out | apply Bel.drew | apply Bel.drewN)⟩
                case measure => simp [intOf]; omega
        · have HRR : Hid (reachR (l ++ ml) = []) := Lib.hid (by unfold reachR; rw [if_neg hcm])
          have HFF : Hid (fineB (l ++ ml) = false) := Lib.hid (by
            unfold fineB
            rw [show crsMay (l ++ ml) = false by simpa using hcm]
            rfl)
          clear hcm
          go_wp2_with fail
          refine (Reach_any _ _ _ _ [] _ HALL.out HN HRR).mono ?_
          rintro e w5 ⟨A5, c5, rfl, s5, hb⟩
          have HBw := HBw.trans hb
          have HALL := Lib.hid (HALL.out.mono InstR.mono hb)
          clear s5 hb
          go_wp2_with fail
          refine (Fine_any _ _ _ (l ++ ml) false _ HALL.out HN HFF).mono ?_
          rintro e w6 ⟨rfl, hb⟩
          have HBw := HBw.trans hb
          clear hb
          go_wp2_with fail
          go_ret
          exact ⟨by simp, HBw⟩
      · have m1 : 0 < m := by omega
        obtain ⟨b1, o1, rfl⟩ := HC.out.addr (by rw [hm.out]; exact m1)
        clear m0
        go_wp2_with (first | (refine at_append w3.heap.size 53 (.agg #[.int .i64 0, .int .i64 0, .int .i64 0, .int .i64 0, .bool false, .int .i64 0, .int .u32 0]) 7 56 Try.underlying22 info_inst rfl (by decide) (.slice none 0 0) 0 [] (by rfl) ⟨by simp, .inl ⟨rfl, rfl⟩⟩ ⟨b0, o0, none⟩ n cap (l.flatMap InstD.cells) (by rfl) (by rw [flat_length, hn.out]) (insts_news HS.out) (insts_one l) (by simp only [maxLen]; omega) (by omega) (Nat.le_refl _) w3 (Nat.le_refl _) (Bel.refl _) rfl ?_; intro v1 w4 own1 hgr1 hb4 hat1; rw [Nat.zero_add, List.nil_append] at own1; obtain ⟨g1, cp1, rfl, hsl1⟩ := own_insts own1 hn.out n0 HS.out.wfs; have hcp := hsl1.le; rw [hn.out] at hcp; have HSL := Lib.hid hsl1; have HOWN := Lib.hid own1; have HC4 := Lib.hid (HC.out.mono InstR.mono hb4); have hsz := hb4.size; have HB4 := Lib.hid hb4; clear hgr1 hat1 hsl1 own1 hb4) | (refine at_append w3.heap.size 53 (.agg #[.int .i64 0, .int .i64 0, .int .i64 0, .int .i64 0, .bool false, .int .i64 0, .int .u32 0]) 7 56 Try.underlying22 info_inst rfl (by decide) _ n (l.flatMap InstD.cells) (by rfl) HOWN.out ⟨b1, o1, none⟩ m cap1 (ml.flatMap InstD.cells) (by rfl) (by rw [flat_length, hm.out]) (insts_news HC4.out) (insts_one ml) (by simp only [maxLen]; omega) (by omega) hsz w3 (Nat.le_refl _) HB4.out rfl ?_; intro v2 w5 own2 hgr2 hb5 hat2; rw [← List.flatMap_append] at own2; obtain ⟨g2, cp2, rfl, hall⟩ := own_insts own2 (by rw [List.length_append, hn.out, hm.out]) (by omega) (fun x hx => (List.mem_append.1 hx).elim (HS.out.wfs x) (HC4.out.wfs x)); have hall := Lib.hid hall; have hb5 := Lib.hid hb5; clear own2 hgr2 hat2))
        have hsr : Sl InstR 7 w5 (some ⟨b0, o0, none⟩) cap l := HS.out.mono InstR.mono hb5.out
        obtain ⟨N, hNn⟩ : ∃ N, N = n + m := ⟨_, rfl⟩
        have hN : (l ++ ml).length = N := by rw [List.length_append, hn.out, hm.out, hNn]
        have hall := hall.out
        have HBw := HBw.trans hb5.out
        clear hcp HC4 HSL HOWN hsz HB4 hb5
        generalize hq : Value.slice (some ⟨g2, 0, none⟩) (n + m) cp2 = VV
        rw [← hNn] at hq
        subst hq
        clear hNn m1
        have HALL := Lib.hid hall
        have HN := Lib.hid hN
        have HSr := Lib.hid hsr
        clear hall hN hsr
        by_cases hcm : crsMay (l ++ ml) = true
        · have HCM := Lib.hid hcm
          have HRA : Hid ((reach (l ++ ml)).length = N) := Lib.hid (by rw [reach_length, HN.out])
          have N0 : 0 < N := by rw [← HN.out]; exact (crsMay_facts hcm).1
          have N64 : N ≤ 64 := by rw [← HN.out]; exact (crsMay_facts hcm).2.1
          have N0' : ((N : Int) == 0) = false := by rw [beq_eq_false_iff_ne]; omega
          have tN : ((N : Int) != (N : Int)) = false := by simp
          have tn : ((n : Int) != (n : Int)) = false := by simp
          clear hcm
          go_wp2_with fail
          refine (Reach_any _ _ _ _ (reach (l ++ ml)) _ HALL.out HN (Lib.hid (by unfold reachR; rw [if_pos HCM.out]))).mono ?_
          rw [HRA.out]
          rintro e w5 ⟨A5, c5, rfl, s5, hb⟩
          have HBw := HBw.trans hb
          have HALL := Lib.hid (HALL.out.mono InstR.mono hb)
          have HSr := Lib.hid (HSr.out.mono InstR.mono hb)
          have S5 := Lib.hid s5
          clear s5 hb
          go_wp2_with fail
          refine (Reach_any _ _ _ _ (reach l) _ HSr.out hn (Lib.hid (by unfold reachR; rw [if_pos HM.out]))).mono ?_
          rw [HRL.out]
          rintro e w6 ⟨A6, c6, rfl, s6, hb⟩
          have HBw := HBw.trans hb
          have HALL := Lib.hid (HALL.out.mono InstR.mono hb)
          have HSr := Lib.hid (HSr.out.mono InstR.mono hb)
          obtain ⟨b5, o5, rfl, hc5⟩ := (S5.out.mono BoolR.mono hb).bool_cell (by rw [HRA.out]; exact N0)
          obtain ⟨b6, o6, rfl, hc6⟩ := s6.bool_cell (by rw [HRL.out]; exact n0)
          have HC5 : Hid (∀ i, i < N → w6.cell? ⟨b5, o5 + i, none⟩ = some (.bool ((reach (l ++ ml)).getD i false))) := Lib.hid (fun i hi => hc5 i (by rw [HRA.out]; exact hi))
          have HC6 : Hid (∀ i, i < n → w6.cell? ⟨b6, o6 + i, none⟩ = some (.bool ((reach l).getD i false))) := Lib.hid (fun i hi => hc6 i (by rw [HRL.out]; exact hi))
          clear s6 hb hc5 hc6 S5
          go_wp2_with fail
          go_loopw [9] (fun v wr => ∃ i : Nat, v = .int .i64 i ∧ i ≤ N ∧ Bel w6 wr) (fun v _ => N - (intOf v).toNat)
          case atStart => exact ⟨0, rfl, Nat.zero_le _, Bel.refl _⟩
          case round =>
            obtain ⟨i, rfl, hi, hbi⟩ := hrel
            by_cases hin : i = N
            · subst hin
              have HBz := HBw.trans hbi
              have HALL := Lib.hid (HALL.out.mono InstR.mono hbi)
              have HSr := Lib.hid (HSr.out.mono InstR.mono hbi)
              obtain ⟨r, hr⟩ : ∃ r, Hid (longR l [] = r) := ⟨_, Lib.hid rfl⟩
              have hr2 : Hid (longR (l ++ ml) [] = r) := Lib.hid (by
                rw [← hr.out]
                unfold longR
                rw [if_pos HCM.out, if_pos HM.out]
                exact cost_app HF.out HCM.out [] _ 0 rfl (by rw [hn.out]; exact n0) (reach_zero (by rw [hn.out]; exact n0)))
              go_wp2_with fail
              refine (Fine_any _ _ _ (l ++ ml) true _ HALL.out HN (Lib.hid (fine_app HF.out HCM.out))).mono ?_
              rintro e w7 ⟨rfl, hb⟩
              have HBz := HBz.trans hb
              have HALL := Lib.hid (HALL.out.mono InstR.mono hb)
              have HSr := Lib.hid (HSr.out.mono InstR.mono hb)
              clear hb
              go_wp2_with fail
              refine (Longest_any _ none _ _ _ 0 (l ++ ml) [] r _ HALL.out HN (Sl.nil _ _ _) (Lib.hid rfl) hr2).mono ?_
              rintro e w8 ⟨rfl, hb⟩
              have HBz := HBz.trans hb
              have HSr := Lib.hid (HSr.out.mono InstR.mono hb)
              clear hb
              go_wp2_with fail
              refine (Longest_any _ none _ _ _ 0 l [] r _ HSr.out hn (Sl.nil _ _ _) (Lib.hid rfl) hr).mono ?_
              rintro e w9 ⟨rfl, hb⟩
              have HBz := HBz.trans hb
              clear hb
              go_wp2_with fail
              go_ret
              exact ⟨by simp, HBz⟩
            · have hi1 : i < N := by omega
              have hi2 : (i : Int) < N := by omega
              have i0 : 0 ≤ (i : Int) := by omega
              have HEI : Hid (IntKind.i64.wrap ((i : Int) + 1) = (i : Int) + 1) := Lib.hid (wrap_i64 (by omega) (by omega))
              have hra := reach_app (m := ml) HF.out i (by rw [HN.out]; exact hi1)
              rw [hn.out] at hra
              have d5 := hbi.cell (HC5.out i hi1)
              have HBI := Lib.hid hbi
              clear hin
              by_cases hil : i < n
              · have hil1 : (i : Int) < n := by omega
                have hil2 : decide ((n : Int) ≤ (i : Int)) = false := decide_eq_false (by omega)
                have hil3 : decide (n ≤ i) = false := decide_eq_false (by omega)
                have d6 := hbi.cell (HC6.out i hil)
                have heq : (reach (l ++ ml)).getD i false = (reach l).getD i false := by
                  rw [Bool.eq_iff_iff, hra]
                  exact ⟨fun h => h.2, fun h => ⟨hil, h⟩⟩
                rw [heq] at d5
                generalize (reach l).getD i false = rv at *
                clear hra heq hbi
                cases rv
                · go_wp2_with fail
                  go_quiet (fail)
                  have ei := HEI.out
                  go_wp2
                  go_roundw
                  case rel => exact ⟨i + 1, by simp, by omega, by repeat (first | exact HBI.out | apply Bel.drew | apply Bel.drewN)⟩
                  case measure => simp [intOf]; omega
                · go_wp2_with fail
                  go_quiet (fail)
                  have ei := HEI.out
                  go_wp2
                  go_roundw
                  case rel => exact ⟨i + 1, by simp, by omega, by repeat (first | exact HBI.out | apply Bel.drew | apply Bel.drewN)⟩
                  case measure => simp [intOf]; omega
              · have hil1 : ¬ (i : Int) < n := by omega
                have hil2 : (n : Int) ≤ i := by omega
                have heq : (reach (l ++ ml)).getD i false = false := by
                  rw [Bool.eq_false_iff]
                  intro h
                  exact hil (hra.1 h).1
                rw [heq] at d5
                clear hra heq hbi
                go_wp2_with fail
                go_quiet (fail)
                have ei := HEI.out
                go_wp2
                go_roundw
                case rel => exact ⟨i + 1, by simp, by omega, by repeat (first | exact HBI.out | apply Bel.drew | apply Bel.drewN)⟩
                case measure => simp [intOf]; omega
        · have HRR : Hid (reachR (l ++ ml) = []) := Lib.hid (by unfold reachR; rw [if_neg hcm])
          have HFF : Hid (fineB (l ++ ml) = false) := Lib.hid (by
            unfold fineB
            rw [show crsMay (l ++ ml) = false by simpa using hcm]
            rfl)
          clear hcm
          go_wp2_with fail
          refine (Reach_any _ _ _ _ [] _ HALL.out HN HRR).mono ?_
          rintro e w5 ⟨A5, c5, rfl, s5, hb⟩
          have HBw := HBw.trans hb
          have HALL := Lib.hid (HALL.out.mono InstR.mono hb)
          clear s5 hb
          go_wp2_with fail
          refine (Fine_any _ _ _ (l ++ ml) false _ HALL.out HN HFF).mono ?_
          rintro e w6 ⟨rfl, hb⟩
          have HBw := HBw.trans hb
          clear hb
          go_wp2_with fail
          go_ret
          exact ⟨by simp, HBw⟩
  · have HRR : Hid (reachR l = []) := Lib.hid (by unfold reachR; rw [if_neg hcm])
    clear hcm
    go_enter Try.func7, Try.ntmps7
    go_wp2_with fail
    refine (awake_any _).mono ?_
    rintro e w1 ⟨rfl, hb⟩
    have HBw := hb
    have HS := Lib.hid (HS.out.mono InstR.mono hb)
    clear hb
    go_wp2_with fail
    refine (Reach_any _ _ _ _ [] _ HS.out hn HRR).mono ?_
    rintro e w2 ⟨A2, c2', rfl, s2, hb⟩
    have HBw := HBw.trans hb
    clear s2 hb
    go_wp2_with fail
    go_ret
    exact ⟨rfl, HBw⟩
end Go.Proofs.Ytpfnjbebfihkeaa
