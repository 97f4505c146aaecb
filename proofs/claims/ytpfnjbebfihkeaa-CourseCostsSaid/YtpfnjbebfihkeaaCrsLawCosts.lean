/- CourseCosts's walk. -/
import Derived.Test.YtpfnjbebfihkeaaCrsLawForward
set_option linter.unusedVariables false
set_option linter.unusedSimpArgs false
namespace Go.Proofs.Ytpfnjbebfihkeaa
open Go.RowKit

def sumTo (l : List InstD) (cs : List Int) (i : Nat) : Int := ((l.take i).map fun x => ownC x cs).sum
theorem sumTo_succ {l : List InstD} {cs : List Int} {i : Nat} (h : i < l.length) : sumTo l cs (i + 1) = sumTo l cs i + ownC l[i]! cs := by
  unfold sumTo
  rw [← List.take_append_getElem h, List.map_append, List.sum_append, getElem!_pos l i h]
  simp
theorem sumTo_all {l : List InstD} {cs : List Int} {n : Nat} (h : l.length = n) : sumTo l cs n = costSum l cs 0 := by
  unfold sumTo costSum
  rw [← h, List.take_length, List.drop_zero]
/-- Costs from 0 to 1000. -/
def Small (cs : List Int) : Prop := ∀ j, j < cs.length → 0 ≤ cs.getD j 0 ∧ cs.getD j 0 ≤ 1000
theorem own_small {i : InstD} {cs : List Int} (h : Small cs) : ownC i cs = if i.op = 6 ∧ i.imm.toNat < cs.length then 1 + cs.getD i.imm.toNat 0 else 1 := by
  unfold ownC
  by_cases h1 : i.op = 6 ∧ i.imm.toNat < cs.length
  · have := h _ h1.2
    rw [if_pos h1, if_pos ⟨h1.1, h1.2, this.1, by omega⟩]
  · rw [if_neg h1, if_neg (fun hh => h1 ⟨hh.1, hh.2.1⟩)]
theorem own_le {i : InstD} {cs : List Int} (h : Small cs) : 1 ≤ ownC i cs ∧ ownC i cs ≤ 1001 := by
  rw [own_small h]
  split
  · rename_i h1; have := h _ h1.2; omega
  · omega
theorem sumTo_range {l : List InstD} {cs : List Int} (h : Small cs) : ∀ i, i ≤ l.length → 0 ≤ sumTo l cs i ∧ sumTo l cs i ≤ 1001 * i
  | 0, _ => by simp [sumTo]
  | i + 1, hi => by
    have h1 := sumTo_range (l := l) h i (by omega)
    have h2 := own_le (i := l[i]!) h
    rw [sumTo_succ (by omega)]
    omega
theorem dear_own {cs : List Int} {more : Int} (h : Small cs) (hm0 : 0 ≤ more) (hm1 : more ≤ 1000) (i : InstD) : ownC i cs ≤ ownC i (cs.map fun c => c + more) ∧ ownC i (cs.map fun c => c + more) ≤ ownC i cs + more := by
  rw [own_small h]
  unfold ownC
  by_cases h1 : i.op = 6 ∧ i.imm.toNat < cs.length
  · have h2 := h _ h1.2
    have e : (cs.map fun c => c + more).getD i.imm.toNat 0 = cs.getD i.imm.toNat 0 + more := by
      simp [List.getD_eq_getElem?_getD, List.getElem?_eq_getElem h1.2]
    rw [if_pos h1, e, if_pos ⟨h1.1, by rw [List.length_map]; exact h1.2, by omega, by omega⟩]
    omega
  · rw [if_neg h1, if_neg (fun hh => h1 ⟨hh.1, by have := hh.2.1; rw [List.length_map] at this; exact this⟩)]
    omega
theorem costSum_none (l : List InstD) : ∀ k, costSum l [] k = ((l.length - k : Nat) : Int) := by
  intro k
  unfold costSum
  have : ∀ (m : List InstD), (m.map fun i => ownC i []).sum = (m.length : Int) := by
    intro m
    induction m with
    | nil => rfl
    | cons x m ih =>
      rw [List.map_cons, List.sum_cons, ih]
      have : ownC x [] = 1 := if_neg (fun h => by simp at h)
      rw [this, List.length_cons]
      omega
  rw [this, List.length_drop]
/-- A row of the call's own, read as a slice. -/
theorem own_ints {w : World} {b : Nat} {e : TypeId} {v : Value} {n : Nat} {cs : List Int} (h : w.ownsRow b e 1 v n (cs.map (Value.int .i64))) (hn : cs.length = n) (hw : ∀ x ∈ cs, (Lit.int .i64 x).wf = true) : ∃ A c, v = .slice A n c ∧ Sl (IntR .i64) 1 w A c cs := by
  obtain ⟨h1, h2⟩ := h
  rcases h2 with ⟨rfl, rfl⟩ | ⟨g, cap, cur, rfl, hb, hh, hc, hm, hs, ht⟩
  · have : cs = [] := List.eq_nil_of_length_eq_zero hn
    subst this
    exact ⟨none, 0, rfl, Sl.nil _ _ _⟩
  · refine ⟨some ⟨g, 0, none⟩, cap, rfl, ⟨by omega, hm, fun i hi => ⟨g, 0, [.int .i64 cs[i]], rfl, rfl, ⟨rfl, hw _ (List.getElem_mem hi)⟩, fun j v hv => ?_⟩⟩⟩
    cases j with
    | succ j => simp at hv
    | zero =>
      simp at hv
      subst hv
      have e1 : (cs.map (Value.int .i64))[i]? = some (.int .i64 cs[i]) := by simp [hi]
      rw [← ht, List.getElem?_take, if_pos (by omega)] at e1
      simp only [World.cell?, Nat.zero_add, Nat.mul_one, Nat.add_zero, hh]
      simpa using e1
theorem info_int : (Try.prog.info? 3).map (fun i => (i.zero, i.size, i.bytes)) = some (some (.int .i64 0), 1, 8) := by kernel_rfl
theorem cost_laws {l : List InstD} {cs : List Int} {more : Int} {n : Nat} (hm : crsMay l = true) (hn : l.length = n) (hs : Small cs) (h0 : 0 ≤ more) (h1 : more ≤ 1000) :
    1 ≤ longR l cs ∧ longR l cs ≤ costSum l cs 0 ∧ longR l cs ≤ 1000000 ∧ longR l cs ≤ longR l (cs.map fun c => c + more) ∧ longR l (cs.map fun c => c + more) ≤ longR l cs + n * more ∧ longR l [] ≤ n := by
  obtain ⟨m0, m1, -⟩ := crsMay_facts hm
  unfold longR
  rw [if_pos hm, if_pos hm, if_pos hm]
  have a1 := cost_bounds m1 cs _ 0 rfl m0
  have a2 := cost_more m1 h0 (c := cs) (d := cs.map fun c => c + more) (fun i => (dear_own hs h0 h1 i).1) (fun i => (dear_own hs h0 h1 i).2) _ 0 rfl m0
  have a3 := cost_bounds m1 [] _ 0 rfl m0
  rw [costSum_none] at a3
  rw [Nat.sub_zero, hn] at a2 a3
  exact ⟨a1.1, a1.2.1, a1.2.2, a2.1, a2.2, a3.2.1⟩

set_option maxHeartbeats 4000000 in
set_option maxRecDepth 100000 in
theorem CourseCosts_walk (A : Option Addr) (cap : Nat) (l : List InstD) (A1 : Option Addr) (cap1 : Nat) (cs : List Int) (more : Int) (W : World) (hl : Sl InstR 7 W A cap l) (hl1 : Sl (IntR .i64) 1 W A1 cap1 cs) (hmw : (Lit.int .i64 more).wf = true) :
    Calls Try.prog 6 #[.slice A l.length cap, .slice A1 cs.length cap1, .int .i64 more] W fun e w' => e = .returned (.bool true) ∧ Bel W w' := by
  have HS := Lib.hid hl
  have HC := Lib.hid hl1
  obtain ⟨n, hn0⟩ : ∃ n, l.length = n := ⟨_, rfl⟩
  have hn := Lib.hid hn0
  obtain ⟨m, hm0⟩ : ∃ m, cs.length = m := ⟨_, rfl⟩
  have hm := Lib.hid hm0
  rw [hn0, hm0]
  clear hl hl1 hn0 hm0 hmw
  by_cases c1 : (80 : Int) < n
  · go_enter Try.func6, Try.ntmps6
    go_wp2_with fail
    refine (awake_any _).mono ?_
    rintro e w1 ⟨rfl, hb⟩
    go_wp2_with fail
    go_ret
    exact ⟨rfl, hb⟩
  by_cases c2 : (20 : Int) < m
  · go_enter Try.func6, Try.ntmps6
    go_wp2_with fail
    refine (awake_any _).mono ?_
    rintro e w1 ⟨rfl, hb⟩
    go_wp2_with fail
    go_ret
    exact ⟨rfl, hb⟩
  by_cases c3 : more < 0
  · go_enter Try.func6, Try.ntmps6
    go_wp2_with fail
    refine (awake_any _).mono ?_
    rintro e w1 ⟨rfl, hb⟩
    go_wp2_with fail
    go_ret
    exact ⟨rfl, hb⟩
  by_cases c4 : 1000 < more
  · go_enter Try.func6, Try.ntmps6
    go_wp2_with fail
    refine (awake_any _).mono ?_
    rintro e w1 ⟨rfl, hb⟩
    go_wp2_with fail
    go_ret
    exact ⟨rfl, hb⟩
  have m20 : m ≤ 20 := by omega
  have n80 : n ≤ 80 := by omega
  have more0 : 0 ≤ more := by omega
  have more1 : more ≤ 1000 := by omega
  go_enter Try.func6, Try.ntmps6
  go_wp2_with fail
  refine (awake_any _).mono ?_
  rintro e w1 ⟨rfl, hb⟩
  have HB := hb
  have HS := Lib.hid (HS.out.mono InstR.mono hb)
  have HC := Lib.hid (HC.out.mono (IntR.mono _) hb)
  clear hb
  go_wp2_with fail
  go_loopw [8, 9] (fun d v wr => ∃ i : Nat, v = .int .i64 i ∧ i ≤ m ∧ wr.ownsRow w1.heap.size 3 1 d i (((cs.take i).map fun c => c + more).map (Value.int .i64)) ∧ Hid (∀ j, j < i → 0 ≤ cs.getD j 0 ∧ cs.getD j 0 ≤ 1000) ∧ Bel w1 wr) (fun _ v _ => m - (intOf v).toNat)
  case atStart => exact ⟨0, rfl, Nat.zero_le _, ⟨by simp, .inl ⟨rfl, rfl⟩⟩, Lib.hid (fun j hj => absurd hj (Nat.not_lt_zero _)), Bel.refl _⟩
  case round =>
    obtain ⟨i, rfl, hi, hown, HE, hbi⟩ := hrel
    by_cases him : i = m
    · subst him
      have HSm : Hid (Small cs) := Lib.hid (fun j hj => HE.out j (by rw [← hm.out]; exact hj))
      rw [← hm.out, List.take_length] at hown
      have hdw : ∀ x ∈ (cs.map fun c => c + more), (Lit.int .i64 x).wf = true := by
        intro x hx
        obtain ⟨c, hc, rfl⟩ := List.mem_map.1 hx
        obtain ⟨j, hj, rfl⟩ := List.mem_iff_getElem.1 hc
        have := HSm.out j hj
        rw [List.getD_eq_getElem?_getD, List.getElem?_eq_getElem hj] at this
        simp only [Option.getD_some] at this
        exact wf_i64 (by omega) (by omega)
      obtain ⟨A2, c2', hd, hsd⟩ := own_ints hown (by simp) hdw
      have HD := Lib.hid hsd
      rw [hm.out] at hd
      subst hd
      have HDL : Hid ((cs.map fun c => c + more).length = i) := Lib.hid (by rw [List.length_map, hm.out])
      obtain ⟨ds, hds⟩ : ∃ ds, Hid ((cs.map fun c => c + more) = ds) := ⟨_, Lib.hid rfl⟩
      rw [hds.out] at HD HDL
      obtain ⟨ra, hra⟩ : ∃ ra, Hid (longR l cs = ra) := ⟨_, Lib.hid rfl⟩
      obtain ⟨rb, hrb⟩ : ∃ rb, Hid (longR l ds = rb) := ⟨_, Lib.hid rfl⟩
      have HBw := HB.trans hbi
      have HSr := Lib.hid (HS.out.mono InstR.mono hbi)
      have HCr := Lib.hid (HC.out.mono (IntR.mono _) hbi)
      clear hown hsd hdw hbi HE
      go_wp2_with fail
      refine (Longest_any _ _ _ _ _ _ l cs ra _ HSr.out hn HCr.out hm hra).mono ?_
      rintro e w2 ⟨rfl, hb⟩
      have HBw := HBw.trans hb
      have HSr := Lib.hid (HSr.out.mono InstR.mono hb)
      have HCr := Lib.hid (HCr.out.mono (IntR.mono _) hb)
      have HD := Lib.hid (HD.out.mono (IntR.mono _) hb)
      clear hb
      go_wp2_with fail
      refine (Longest_any _ _ _ _ _ _ l ds rb _ HSr.out hn HD.out HDL hrb).mono ?_
      rintro e w3 ⟨rfl, hb⟩
      have HBw := HBw.trans hb
      have HSr := Lib.hid (HSr.out.mono InstR.mono hb)
      have HCr := Lib.hid (HCr.out.mono (IntR.mono _) hb)
      clear hb HD
      by_cases hcm : crsMay l = true
      · have HM := Lib.hid hcm
        obtain ⟨p0, p1, -⟩ := crsMay_facts hcm
        rw [hn.out] at p0 p1
        have hlaws := cost_laws (more := more) hcm hn.out HSm.out more0 more1
        rw [hds.out, hra.out, hrb.out] at hlaws
        obtain ⟨r0, hr0⟩ : ∃ r0, Hid (longR l [] = r0) := ⟨_, Lib.hid rfl⟩
        rw [hr0.out] at hlaws
        obtain ⟨q1, q2, q3, q4, q5, q6⟩ := hlaws
        have hr00 := (longR_range l []).1
        rw [hr0.out] at hr00
        have Q2 := Lib.hid q2
        have HQ := Lib.hid (And.intro q1 (And.intro q3 (And.intro q4 (And.intro q5 q6))))
        have hra0 : (ra == 0) = false := by rw [beq_eq_false_iff_ne]; omega
        obtain ⟨b0, o0, rfl⟩ := HSr.out.addr (by rw [hn.out]; exact p0)
        clear hcm q1 q2 q3 q4 q5 q6
        go_wp2_with fail
        go_loopw [12, 13] (fun s v wr => ∃ k : Nat, v = .int .i64 k ∧ k ≤ n ∧ s = .int .i64 (sumTo l cs k) ∧ wr = w3) (fun _ v _ => n - (intOf v).toNat)
        case atStart => exact ⟨0, rfl, Nat.zero_le _, by simp [sumTo], rfl⟩
        case round =>
          obtain ⟨k, rfl, hk, rfl, rfl⟩ := hrel
          have hrange := sumTo_range (l := l) HSm.out k (by rw [hn.out]; exact hk)
          by_cases hkn : k = n
          · subst hkn
            have hs := sumTo_all (cs := cs) hn.out
            have hle := Q2.out
            rw [← hs] at hle
            clear hs
            generalize sumTo l cs k = S at *
            obtain ⟨q1, q3, q4, q5, q6⟩ := HQ.out
            have hmul : 0 ≤ (k : Int) * more ∧ (k : Int) * more ≤ 64000 := ⟨Int.mul_nonneg (by omega) more0, by
              have h1 : (k : Int) * more ≤ 64 * 1000 := Int.mul_le_mul (by omega) more1 more0 (by omega)
              omega⟩
            obtain ⟨hmul0, hmul1⟩ := hmul
            have em : IntKind.i64.wrap ((k : Int) * more) = (k : Int) * more := wrap_i64 (by omega) (by omega)
            have EM := Lib.hid em
            obtain ⟨X, hX⟩ : ∃ X, Hid ((k : Int) * more = X) := ⟨_, Lib.hid rfl⟩
            rw [hX.out] at q5 hmul0 hmul1
            have ei : IntKind.i64.wrap ((k : Int) * more) = X := em.trans hX.out
            have es : IntKind.i64.wrap (ra + X) = ra + X := wrap_i64 (by omega) (by omega)
            clear em hrange EM
            go_wp2_with fail
            refine (Longest_any _ none _ _ _ 0 l [] r0 _ HSr.out hn (Sl.nil _ _ _) (Lib.hid rfl) hr0).mono ?_
            rintro e w4 ⟨rfl, hb⟩
            have HBw := HBw.trans hb
            clear hb
            go_wp2_with fail
            go_ret
            exact ⟨by simp, HBw⟩
          · have hk1 : k < n := by omega
            have hk2 : (k : Int) < n := by omega
            have k0 : 0 ≤ (k : Int) := by omega
            have hkl : k < l.length := by rw [hn.out]; exact hk1
            have ek : IntKind.i64.wrap ((k : Int) + 1) = (k : Int) + 1 := wrap_i64 (by omega) (by omega)
            have hss := sumTo_succ (cs := cs) hkl
            rw [own_small HSm.out, hm.out] at hss
            have hcells := inst_cells HSr.out k hkl
            obtain ⟨b9, o9, cs9, -, -, ⟨-, hwf⟩, -⟩ := HSr.out.get k hkl
            rw [← getElem!_pos l k hkl] at hwf
            obtain ⟨S1, hS1⟩ : ∃ S1, Hid (sumTo l cs (k + 1) = S1) := ⟨_, Lib.hid rfl⟩
            rw [hS1.out] at hss
            generalize sumTo l cs k = S at *
            generalize l[k]! = I at *
            obtain ⟨op, fn, dst, src, reg, off, imm⟩ := I
            have d0 := hcells 0 _ rfl
            have d6 := hcells 6 _ rfl
            rw [Nat.add_zero] at d0
            have um : U32 imm := hwf.imm
            obtain ⟨um0, um1⟩ := um
            have ei : IntKind.i64.wrap imm = imm := wrap_i64 (by omega) (by omega)
            have e1 : IntKind.i64.wrap (S + 1) = S + 1 := wrap_i64 (by omega) (by omega)
            clear hcells hwf
            simp only at d0 d6 hss
            by_cases h6 : op = 6
            · subst h6
              obtain ⟨x, rfl⟩ : ∃ x : Nat, imm = x := ⟨imm.toNat, by omega⟩
              rw [Int.toNat_natCast] at hss
              clear um0 um1
              by_cases hx : x < i
              · have hx' : (x : Int) < (i : Int) := by omega
                rw [if_pos ⟨rfl, hx⟩] at hss
                obtain ⟨b7, o7, rfl, hc7⟩ := HCr.out.int_cell (by rw [hm.out]; omega)
                have k7 := (hc7 x (by rw [hm.out]; exact hx)).1
                have hy := HSm.out x (by rw [hm.out]; exact hx)
                generalize cs.getD x 0 = y at *
                obtain ⟨hy0, hy1⟩ := hy
                have x0 : 0 ≤ (x : Int) := by omega
                have e2 : IntKind.i64.wrap (S + 1 + y) = S + 1 + y := wrap_i64 (by omega) (by omega)
                have HSS : Hid (S1 = S + 1 + y) := Lib.hid (by omega)
                clear hss hc7
                go_wp2
                go_roundw
                case rel => exact ⟨k + 1, by simp, by omega, by rw [hS1.out, HSS.out], by first | rfl | trivial⟩
                case measure => simp [intOf]; omega
              · have hx' : ¬ (x : Int) < (i : Int) := by omega
                rw [if_neg (fun h => hx h.2)] at hss
                have HSS := Lib.hid hss
                clear hss
                go_wp2
                go_roundw
                case rel => exact ⟨k + 1, by simp, by omega, by rw [hS1.out, HSS.out], by first | rfl | trivial⟩
                case measure => simp [intOf]; omega
            · have h6' : (op == 6) = false := by simpa using h6
              rw [if_neg (fun h => h6 h.1)] at hss
              have HSS := Lib.hid hss
              clear um0 um1 hss h6
              go_wp2
              go_roundw
              case rel => exact ⟨k + 1, by simp, by omega, by rw [hS1.out, HSS.out], by first | rfl | trivial⟩
              case measure => simp [intOf]; omega
      · have hz : ∀ c, longR l c = 0 := fun c => by unfold longR; rw [if_neg hcm]
        have ea : ra = 0 := by rw [← hra.out]; exact hz _
        have eb : rb = 0 := by rw [← hrb.out]; exact hz _
        subst ea
        subst eb
        have HRR : Hid (reachR l = []) := Lib.hid (by unfold reachR; rw [if_neg hcm])
        clear hcm hz
        go_wp2_with fail
        refine (Reach_any _ _ _ _ [] _ HSr.out hn HRR).mono ?_
        rintro e w4 ⟨A4, c4, rfl, s4, hb⟩
        have HBw := HBw.trans hb
        clear s4 hb
        go_wp2_with fail
        go_ret
        exact ⟨by simp, HBw⟩
    · have hi1 : i < m := by omega
      have hi2 : (i : Int) < m := by omega
      have i0 : 0 ≤ (i : Int) := by omega
      have hil : i < cs.length := by rw [hm.out]; exact hi1
      have ei : IntKind.i64.wrap ((i : Int) + 1) = (i : Int) + 1 := wrap_i64 (by omega) (by omega)
      obtain ⟨b1, o1, rfl, hc1⟩ := (HC.out.mono (IntR.mono _) hbi).int_cell (by rw [hm.out]; omega)
      have d1 := (hc1 i hil).1
      have hx : cs.take (i + 1) = cs.take i ++ [cs.getD i 0] := by
        rw [← List.take_append_getElem hil, List.getD_eq_getElem?_getD, List.getElem?_eq_getElem hil]; rfl
      have HX := Lib.hid hx
      have HBw := HB.trans hbi
      generalize cs.getD i 0 = x at *
      have HEX : Hid (0 ≤ x → x ≤ 1000 → ∀ j, j < i + 1 → 0 ≤ cs.getD j 0 ∧ cs.getD j 0 ≤ 1000) := Lib.hid (fun h0 h1 j hj => by
        by_cases e : j < i
        · exact HE.out j e
        · obtain rfl : j = i := by omega
          have := congrArg (fun (t : List Int) => t.getD j 0) hx
          simp only [List.getD_eq_getElem?_getD, List.getElem?_take, if_pos (Nat.lt_succ_self j)] at this
          rw [List.getElem?_append_right (by rw [List.length_take]; omega), List.length_take, Nat.min_eq_left (by omega), Nat.sub_self] at this
          rw [List.getD_eq_getElem?_getD, this]
          exact ⟨h0, h1⟩)
      clear hc1 hx
      by_cases x0 : x < 0
      · go_wp2_with fail
        go_ret
        exact ⟨rfl, HBw⟩
      · by_cases x1 : 1000 < x
        · have x0' : ¬ x < 0 := x0
          go_wp2_with fail
          go_ret
          exact ⟨rfl, HBw⟩
        · have x1' : ¬ 1000 < x := x1
          have es : IntKind.i64.wrap (x + more) = x + more := wrap_i64 (by omega) (by omega)
          have HEX := Lib.hid (HEX.out (by omega) (by omega))
          have HOWN := Lib.hid hown
          have hsz := hbi.size
          clear hown
          go_wp2_with (refine at_append1 w1.heap.size (.int .i64 0) 8 Try.underlying23 info_int rfl _ i _ (by rfl) HOWN.out (by rfl) (by rfl) (by simp only [maxLen]; omega) (by omega) hsz w1 (Nat.le_refl _) hbi rfl ?_; intro v1 w' hown1 hgr1 HB1)
          go_roundw
          case rel => exact ⟨i + 1, by simp, by omega, by rw [HX.out]; simpa using hown1, HEX, HB1⟩
          case measure => simp [intOf]; omega
end Go.Proofs.Ytpfnjbebfihkeaa
