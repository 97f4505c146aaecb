/- The document's 'Code', 'May' and 'Next' by their contracts. -/
import Derived.Test.YtpfnjbebfihkeaaCrs9
import Derived.Test.YtpfnjbebfihkeaaRefMay
import Derived.Test.YtpfnjbebfihkeaaCrsLawForward
set_option linter.unusedVariables false
set_option linter.unusedSimpArgs false
namespace Go.Proofs.Ytpfnjbebfihkeaa
open Go.RowKit

theorem crsMay_all {l : List InstD} {n : Nat} (hn : l.length = n) (h : ∀ j, j < n → (l[j]!).okB = true) : crsMay l = decide (0 < n ∧ n ≤ 64) := by
  unfold crsMay
  rw [hn]
  have : l.all InstD.okB = true := by
    rw [List.all_eq_true]
    intro x hx
    obtain ⟨j, hj, rfl⟩ := List.mem_iff_getElem.1 hx
    have := h j (by omega)
    rwa [getElem!_pos l j hj] at this
  rw [this, Bool.and_true]
theorem crsMay_not {l : List InstD} {j : Nat} (hj : j < l.length) (h : (l[j]!).okB = false) : crsMay l = false := by
  unfold crsMay
  have : l.all InstD.okB = false := by
    rw [Bool.eq_false_iff]
    intro hh
    rw [List.all_eq_true] at hh
    have := hh _ (List.getElem_mem hj)
    rw [getElem!_pos l j hj] at h
    rw [h] at this
    cases this
  rw [this, Bool.and_false]
set_option maxHeartbeats 4000000 in
set_option maxRecDepth 100000 in
theorem refCode_any (gg : Int) (A : Option Addr) (c n : Nat) (l : List InstD) (r : Bool) (w : World) (h : Sl InstR 7 w A c l) (hn : Hid (l.length = n)) (hr : Hid (crsMay l = r)) :
    Calls Try.prog 37 #[.agg #[.int .i64 gg, .slice A n c]] w fun e w' => e = .returned (.bool r) ∧ Bel w w' := by
  have HS0 := Lib.hid h
  have hbig : n ≤ 9223372036854775807 := by rw [← hn.out]; have := h.le; have := h.big; simp only [maxLen] at this; omega
  have HBIG := Lib.hid hbig
  clear h hbig
  have HB1 := Bel.refl (w.alloc (.cells #[.int .i64 gg, .slice A n c] 46))
  have hq1 : (w.alloc (.cells #[.int .i64 gg, .slice A n c] 46)).cell? ⟨w.heap.size, 1, none⟩ = some (.slice A n c) := cell_fresh w _ _ 1 _ rfl
  have HQ1 := Lib.hid hq1
  have HBa := Lib.hid ((Bel.refl w).alloc (.cells #[.int .i64 gg, .slice A n c] 46))
  go_enter Try.func37, Try.ntmps37
  go_wp2_with fail
  generalize w.alloc (.cells #[.int .i64 gg, .slice A n c] 46) = W1 at *
  generalize w.heap.size = g at *
  clear hq1
  go_loopw [3] (fun v wr => ∃ k : Nat, v = .int .i64 k ∧ k ≤ n ∧ Hid (∀ j, j < k → (l[j]!).okB = true) ∧ Bel W1 wr) (fun v _ => n - (intOf v).toNat)
  case atStart => exact ⟨0, rfl, Nat.zero_le _, Lib.hid (fun j hj => absurd hj (Nat.not_lt_zero _)), Bel.refl _⟩
  case round =>
    obtain ⟨k, rfl, hk, HE, hbk⟩ := hrel
    have q1 := hbk.cell HQ1.out
    have HBw := HBa.out.trans hbk
    by_cases hkn : k = n
    · subst hkn
      have HR := Lib.hid ((crsMay_all hn.out HE.out).symm.trans hr.out)
      by_cases k0 : 0 < k
      · by_cases k1 : k ≤ 64
        · have k0' : (1 : Int) ≤ k := by omega
          have k1' : (k : Int) ≤ 64 := by omega
          go_wp2_with fail
          go_ret
          rw [← HR.out, decide_eq_true ⟨k0, k1⟩]
          exact ⟨by simp, HBw⟩
        · have k0' : (1 : Int) ≤ k := by omega
          have k1' : ¬ (k : Int) ≤ 64 := by omega
          go_wp2_with fail
          go_ret
          rw [← HR.out, decide_eq_false (fun h => k1 h.2)]
          exact ⟨by simp, HBw⟩
      · have k0' : ¬ (1 : Int) ≤ k := by omega
        go_wp2_with fail
        go_ret
        rw [← HR.out, decide_eq_false (fun h => k0 h.1)]
        exact ⟨by simp, HBw⟩
    · have hk1 : k < n := by omega
      have hk2 : (k : Int) < n := by omega
      have k0 : 0 ≤ (k : Int) := by omega
      have HEK : Hid (IntKind.i64.wrap ((k : Int) + 1) = (k : Int) + 1) := Lib.hid (wrap_i64 (by omega) (by have := HBIG.out; omega))
      have HKL : Hid (k < l.length) := Lib.hid (by rw [hn.out]; exact hk1)
      have HSr := HS0.out.mono InstR.mono HBw
      obtain ⟨b0, o0, rfl⟩ := HSr.addr (by rw [hn.out]; omega)
      have hcells := inst_cells HSr k HKL.out
      obtain ⟨o, ho⟩ : ∃ o, Hid ((l[k]!).okB = o) := ⟨_, Lib.hid rfl⟩
      have ho2 := ho.out
      generalize l[k]! = I at hcells ho2
      obtain ⟨op, fn, dst, src, reg, off, imm⟩ := I
      have d0 := hcells 0 _ rfl
      have d1 := hcells 1 _ rfl
      have d2 := hcells 2 _ rfl
      have d3 := hcells 3 _ rfl
      have d4 := hcells 4 _ rfl
      have d5 := hcells 5 _ rfl
      have d6 := hcells 6 _ rfl
      rw [Nat.add_zero] at d0
      have HO : Hid (mayB op fn dst src reg off imm = o) := Lib.hid ho2
      clear hcells ho2 HSr hkn
      go_wp2_with fail
      refine (refmay_any op fn dst src reg off imm _).mono ?_
      rw [HO.out]
      rintro e w2 ⟨rfl, hb⟩
      have HBk := Lib.hid (hbk.trans hb)
      have HBw := HBw.trans hb
      clear hb q1 d0 d1 d2 d3 d4 d5 d6
      cases o
      · have HR : Hid (r = false) := Lib.hid (by rw [← hr.out]; exact crsMay_not HKL.out ho.out)
        go_wp2_with fail
        go_ret
        rw [HR.out]
        exact ⟨rfl, HBw⟩
      · have ek := HEK.out
        go_wp2
        go_roundw
        case rel => exact ⟨k + 1, by simp, by omega, Lib.hid (fun j hj => by
          by_cases e : j = k
          · subst e; exact ho.out
          · exact HE.out j (by omega)), HBk.out⟩
        case measure => simp [intOf]; omega
set_option maxHeartbeats 1000000 in
theorem refCrsMay_any (A : Option Addr) (c n : Nat) (l : List InstD) (r : Bool) (w : World) (h : Sl InstR 7 w A c l) (hn : Hid (l.length = n)) (hr : Hid (crsMay l = r)) :
    Calls Try.prog 27 #[.slice A n c] w fun e w' => e = .returned (.bool r) ∧ Bel w w' := by
  have HS := Lib.hid h
  clear h
  go_enter Try.func27, Try.ntmps27
  go_wp2_with fail
  refine (refCode_any 0 A c n l r _ HS.out hn hr).mono ?_
  rintro e w1 ⟨rfl, hb⟩
  go_wp2_with fail
  go_ret
  exact ⟨rfl, hb⟩

theorem refnext_fin (ks : List Nat) (w w1 : World) (hb : Bel w w1) (hk : ∀ t ∈ ks, t ≤ 200000) (hl : ks.length ≤ 2) : IntsOut ks w (.returned (.slice (some ⟨w1.heap.size, 0, none⟩) ks.length ks.length)) (w1.alloc (.cells ((ints ks).map (Value.int .i64)).toArray 3)) := by
  refine ⟨some ⟨w1.heap.size, 0, none⟩, ks.length, rfl, ?_, fun x hx => ?_, hb.alloc _⟩
  · have := sl_new_at (k := .i64) w1 w1.heap.size rfl 3 (ints ks) (by
      intro x hx
      simp only [ints, List.mem_map] at hx
      obtain ⟨t, ht, rfl⟩ := hx
      have := hk t ht
      exact wf_i64 (by omega) (by omega)) (by simp only [ints, List.length_map, maxLen]; omega)
    simpa [ints] using this
  · cases hx
    exact hb.size
theorem nxt_ref (op fn dst src : Int) (reg : Bool) (off imm : Int) (k : Nat) (h0 : 0 ≤ off) : nxt ⟨op, fn, dst, src, reg, off, imm⟩ k =
    if op = 7 then [] else if op ≠ 1 ∨ off = 0 then [k + 1] else if fn = 0 then [k + 1 + off.toNat] else [k + 1, k + 1 + off.toNat] := by
  unfold nxt
  simp only
  by_cases h7 : op = 7
  · simp [h7]
  · by_cases h1 : op = 1
    · by_cases hz : off = 0
      · by_cases hf : fn = 0 <;> simp [h1, hz, hf]
      · have hp : 0 < off := by omega
        by_cases hf : fn = 0 <;> simp [h1, hz, hf, hp] <;> omega
    · simp [h7, h1]
set_option maxHeartbeats 4000000 in
set_option maxRecDepth 100000 in
theorem refNext_any (A : Option Addr) (c n : Nat) (l : List InstD) (p : Int) (ts : List Nat) (w : World) (h : Sl InstR 7 w A c l) (hn : Hid (l.length = n)) (ht : Hid (nextR l p = ts)) :
    Calls Try.prog 13 #[.slice A n c, .int .i64 p] w (IntsOut ts w) := by
  have HS := Lib.hid h
  clear h
  rw [← ht.out]
  clear ht
  by_cases hm : crsMay l = true
  · have HM := Lib.hid hm
    obtain ⟨m0, m1, m2⟩ := crsMay_facts hm
    rw [hn.out] at m0 m1
    have HOK := Lib.hid m2
    clear hm m2
    by_cases p0 : p < 0
    · rw [nextR_out (.inl p0)]
      go_enter Try.func13, Try.ntmps13
      go_wp2_with fail
      refine (refCrsMay_any _ _ _ l true _ HS.out hn HM).mono ?_
      rintro e w1 ⟨rfl, hb⟩
      go_wp2_with fail
      go_ret
      exact ⟨none, 0, rfl, Sl.nil _ _ _, (fun _ h => by cases h), hb⟩
    · by_cases p1 : p < n
      · obtain ⟨k, rfl⟩ : ∃ k : Nat, p = k := ⟨p.toNat, by omega⟩
        have hk : k < n := by omega
        have hkl : k < l.length := by rw [hn.out]; exact hk
        rw [nextR_in HM.out hkl]
        have hoff := ok_off (HOK.out k hkl)
        obtain ⟨b0, o0, rfl⟩ := HS.out.addr (by omega)
        have hcells := inst_cells HS.out k hkl
        generalize l[k]! = I at hcells hoff ⊢
        obtain ⟨op, fn, dst, src, reg, off, imm⟩ := I
        have d0 := hcells 0 _ rfl
        have d1 := hcells 1 _ rfl
        have d5 := hcells 5 _ rfl
        rw [Nat.add_zero] at d0
        simp only at hoff d0 d1 d5
        obtain ⟨of0, of1⟩ := hoff
        obtain ⟨o, rfl⟩ := Int.eq_ofNat_of_zero_le of0
        rw [nxt_ref _ _ _ _ _ _ _ _ of0, Int.toNat_natCast]
        have k0 : 0 ≤ (k : Int) := by omega
        have hk2 : (k : Int) < n := by omega
        have hk3 : ¬ (n : Int) ≤ k := by omega
        have e1 : IntKind.i64.wrap ((k : Int) + 1) = (k : Int) + 1 := wrap_i64 (by omega) (by omega)
        have e2 : IntKind.i64.wrap ((k : Int) + 1 + (o : Int)) = (k : Int) + 1 + (o : Int) := wrap_i64 (by omega) (by omega)
        have HE1 := Lib.hid e1
        have HE2 := Lib.hid e2
        have D0 := Lib.hid d0
        have D1 := Lib.hid d1
        have D5 := Lib.hid d5
        clear hcells p0 p1 hkl e1 e2 d0 d1 d5 of0
        by_cases h7 : op = 7
        · subst h7
          rw [if_pos rfl]
          go_enter Try.func13, Try.ntmps13
          go_wp2_with fail
          refine (refCrsMay_any _ _ _ l true _ HS.out hn HM).mono ?_
          rintro e w1 ⟨rfl, hb⟩
          have d0 := hb.cell D0.out
          go_wp2_with fail
          go_ret
          exact ⟨none, 0, rfl, Sl.nil _ _ _, (fun _ h => by cases h), hb⟩
        · have h7' : (op == 7) = false := by simpa using h7
          rw [if_neg h7]
          by_cases h1 : op = 1
          · subst h1
            by_cases ho : o = 0
            · subst ho
              rw [if_pos (.inr rfl)]
              go_enter Try.func13, Try.ntmps13
              go_wp2_with fail
              refine (refCrsMay_any _ _ _ l true _ HS.out hn HM).mono ?_
              rintro e w1 ⟨rfl, hb⟩
              have d0 := hb.cell D0.out
              have d1 := hb.cell D1.out
              have d5 := hb.cell D5.out
              have e1 := HE1.out
              go_wp2_with fail
              go_ret
              have h := refnext_fin [k + 1] w w1 hb (by intro t ht; simp at ht; omega) (by simp)
              simpa [ints] using h
            · have ho' : ((o : Int) == 0) = false := by simp; omega
              rw [if_neg (by rintro (h | h); exact h rfl; exact ho (by omega))]
              by_cases hf : fn = 0
              · subst hf
                rw [if_pos rfl]
                go_enter Try.func13, Try.ntmps13
                go_wp2_with fail
                refine (refCrsMay_any _ _ _ l true _ HS.out hn HM).mono ?_
                rintro e w1 ⟨rfl, hb⟩
                have d0 := hb.cell D0.out
                have d1 := hb.cell D1.out
                have d5 := hb.cell D5.out
                have e1 := HE1.out
                have e2 := HE2.out
                go_wp2_with fail
                go_ret
                have h := refnext_fin [k + 1 + o] w w1 hb (by intro t ht; simp at ht; omega) (by simp)
                simpa [ints] using h
              · have hf' : (fn == 0) = false := by simpa using hf
                rw [if_neg hf]
                go_enter Try.func13, Try.ntmps13
                go_wp2_with fail
                refine (refCrsMay_any _ _ _ l true _ HS.out hn HM).mono ?_
                rintro e w1 ⟨rfl, hb⟩
                have d0 := hb.cell D0.out
                have d1 := hb.cell D1.out
                have d5 := hb.cell D5.out
                have e1 := HE1.out
                have e2 := HE2.out
                go_wp2_with fail
                go_ret
                have h := refnext_fin [k + 1, k + 1 + o] w w1 hb (by intro t ht; simp at ht; omega) (by simp)
                simpa [ints] using h
          · have h1' : (op != 1) = true := by simpa using h1
            rw [if_pos (.inl h1)]
            go_enter Try.func13, Try.ntmps13
            go_wp2_with fail
            refine (refCrsMay_any _ _ _ l true _ HS.out hn HM).mono ?_
            rintro e w1 ⟨rfl, hb⟩
            have d0 := hb.cell D0.out
            have d1 := hb.cell D1.out
            have d5 := hb.cell D5.out
            have e1 := HE1.out
            go_wp2_with fail
            go_ret
            have h := refnext_fin [k + 1] w w1 hb (by intro t ht; simp at ht; omega) (by simp)
            simpa [ints] using h
      · rw [nextR_out (.inr (by rw [hn.out]; omega))]
        have p0' : ¬ p < 0 := p0
        have p1' : (n : Int) ≤ p := by omega
        go_enter Try.func13, Try.ntmps13
        go_wp2_with fail
        refine (refCrsMay_any _ _ _ l true _ HS.out hn HM).mono ?_
        rintro e w1 ⟨rfl, hb⟩
        go_wp2_with fail
        go_ret
        exact ⟨none, 0, rfl, Sl.nil _ _ _, (fun _ h => by cases h), hb⟩
  · have HM : Hid (crsMay l = false) := Lib.hid (by simpa using hm)
    rw [show nextR l p = [] by unfold nextR; rw [if_neg (fun h => hm h.1)]]
    clear hm
    go_enter Try.func13, Try.ntmps13
    go_wp2_with fail
    refine (refCrsMay_any _ _ _ l false _ HS.out hn HM).mono ?_
    rintro e w1 ⟨rfl, hb⟩
    go_wp2_with fail
    go_ret
    exact ⟨none, 0, rfl, Sl.nil _ _ _, (fun _ h => by cases h), hb⟩
end Go.Proofs.Ytpfnjbebfihkeaa
