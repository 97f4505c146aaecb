/- The document's 'Code', 'May' and 'Few' of a program (cut out of the texts of chapter 8). -/
import Derived.Test.YtebdnobgdimdoaaPg1
import Derived.Test.YtebdnobgdimdoaaRefMay
import Derived.RangeFuncBox
set_option linter.unusedVariables false
set_option linter.unusedSimpArgs false
namespace Go.Proofs.Ytebdnobgdimdoaa
open Go.RowKit
theorem cell_fresh (w : World) (a : Array Value) (t : TypeId) (k : Nat) (v : Value) (h : a[k]? = some v) : (w.alloc (.cells a t)).cell? ⟨w.heap.size, k, none⟩ = some v := by
  have e := World.alloc_heap_new w (.cells a t)
  unfold World.cell?
  simp only
  rw [e]
  exact h

theorem crsMay_all {l : List InstD} {n : Nat} (hn : l.length = n) (h : ∀ j, j < n → (l[j]!).okB = true) : crsMay l = decide (0 < n ∧ n ≤ 64) := by
  unfold crsMay
  rw [hn]
  have : l.all InstD.okB = true := by
    rw [List.all_eq_true]
    intro x hx
    obtain ⟨j, hj, rfl⟩ := List.mem_iff_getElem.1 hx
    have := h j (by omega)
    rwa [getElem!_pos l j hj] at this
  rw [this, Bool.and_true]
theorem crsMay_not {l : List InstD} {j : Nat} (hj : j < l.length) (h : (l[j]!).okB = false) : crsMay l = false := by
  unfold crsMay
  have : l.all InstD.okB = false := by
    rw [Bool.eq_false_iff]
    intro hh
    rw [List.all_eq_true] at hh
    have := hh _ (List.getElem_mem hj)
    rw [getElem!_pos l j hj] at h
    rw [h] at this
    cases this
  rw [this, Bool.and_false]
set_option maxHeartbeats 4000000 in
set_option maxRecDepth 100000 in
theorem refCode_any (gg : Int) (A : Option Addr) (c n : Nat) (l : List InstD) (r : Bool) (w : World) (h : Sl InstR 7 w A c l) (hn : Hid (l.length = n)) (hr : Hid (crsMay l = r)) :
    Calls Try.prog 81 #[.agg #[.int .i64 gg, .slice A n c]] w fun e w' => e = .returned (.bool r) ∧ Bel w w' := by
  have HS0 := Lib.hid h
  have hbig : n ≤ 9223372036854775807 := by rw [← hn.out]; have := h.le; have := h.big; simp only [maxLen] at this; omega
  have HBIG := Lib.hid hbig
  clear h hbig
  have HB1 := Bel.refl (w.alloc (.cells #[.int .i64 gg, .slice A n c] 34))
  have hq1 : (w.alloc (.cells #[.int .i64 gg, .slice A n c] 34)).cell? ⟨w.heap.size, 1, none⟩ = some (.slice A n c) := cell_fresh w _ _ 1 _ rfl
  have HQ1 := Lib.hid hq1
  have HBa := Lib.hid ((Bel.refl w).alloc (.cells #[.int .i64 gg, .slice A n c] 34))
  go_enter Try.func81, Try.ntmps81
  go_wp2_with fail
  generalize w.alloc (.cells #[.int .i64 gg, .slice A n c] 34) = W1 at *
  generalize w.heap.size = g at *
  clear hq1
  go_loopw [3] (fun v wr => ∃ k : Nat, v = .int .i64 k ∧ k ≤ n ∧ Hid (∀ j, j < k → (l[j]!).okB = true) ∧ Bel W1 wr) (fun v _ => n - (intOf v).toNat)
  case atStart => exact ⟨0, rfl, Nat.zero_le _, Lib.hid (fun j hj => absurd hj (Nat.not_lt_zero _)), Bel.refl _⟩
  case round =>
    obtain ⟨k, rfl, hk, HE, hbk⟩ := hrel
    have q1 := hbk.cell HQ1.out
    have HBw := HBa.out.trans hbk
    by_cases hkn : k = n
    · subst hkn
      have HR := Lib.hid ((crsMay_all hn.out HE.out).symm.trans hr.out)
      by_cases k0 : 0 < k
      · by_cases k1 : k ≤ 64
        · have k0' : (1 : Int) ≤ k := by omega
          have k1' : (k : Int) ≤ 64 := by omega
          go_wp2_with fail
          go_ret
          rw [← HR.out, decide_eq_true ⟨k0, k1⟩]
          exact ⟨by simp, HBw⟩
        · have k0' : (1 : Int) ≤ k := by omega
          have k1' : ¬ (k : Int) ≤ 64 := by omega
          go_wp2_with fail
          go_ret
          rw [← HR.out, decide_eq_false (fun h => k1 h.2)]
          exact ⟨by simp, HBw⟩
      · have k0' : ¬ (1 : Int) ≤ k := by omega
        go_wp2_with fail
        go_ret
        rw [← HR.out, decide_eq_false (fun h => k0 h.1)]
        exact ⟨by simp, HBw⟩
    · have hk1 : k < n := by omega
      have hk2 : (k : Int) < n := by omega
      have k0 : 0 ≤ (k : Int) := by omega
      have HEK : Hid (IntKind.i64.wrap ((k : Int) + 1) = (k : Int) + 1) := Lib.hid (wrap_i64 (by omega) (by have := HBIG.out; omega))
      have HKL : Hid (k < l.length) := Lib.hid (by rw [hn.out]; exact hk1)
      have HSr := HS0.out.mono InstR.mono HBw
      obtain ⟨b0, o0, rfl⟩ := HSr.addr (by rw [hn.out]; omega)
      have hcells := inst_cells HSr k HKL.out
      obtain ⟨o, ho⟩ : ∃ o, Hid ((l[k]!).okB = o) := ⟨_, Lib.hid rfl⟩
      have ho2 := ho.out
      generalize l[k]! = I at hcells ho2
      obtain ⟨op, fn, dst, src, reg, off, imm⟩ := I
      have d0 := hcells 0 _ rfl
      have d1 := hcells 1 _ rfl
      have d2 := hcells 2 _ rfl
      have d3 := hcells 3 _ rfl
      have d4 := hcells 4 _ rfl
      have d5 := hcells 5 _ rfl
      have d6 := hcells 6 _ rfl
      rw [Nat.add_zero] at d0
      have HO : Hid (mayB op fn dst src reg off imm = o) := Lib.hid ho2
      clear hcells ho2 HSr hkn
      go_wp2_with fail
      refine (refmay_any op fn dst src reg off imm _).mono ?_
      rw [HO.out]
      rintro e w2 ⟨rfl, hb⟩
      have HBk := Lib.hid (hbk.trans hb)
      have HBw := HBw.trans hb
      clear hb q1 d0 d1 d2 d3 d4 d5 d6
      cases o
      · have HR : Hid (r = false) := Lib.hid (by rw [← hr.out]; exact crsMay_not HKL.out ho.out)
        go_wp2_with fail
        go_ret
        rw [HR.out]
        exact ⟨rfl, HBw⟩
      · have ek := HEK.out
        go_wp2
        go_roundw
        case rel => exact ⟨k + 1, by simp, by omega, Lib.hid (fun j hj => by
          by_cases e : j = k
          · subst e; exact ho.out
          · exact HE.out j (by omega)), HBk.out⟩
        case measure => simp [intOf]; omega
def fewB (L : List FnD) : Bool := decide (L.length ≤ 12) && L.all fun f => decide (f.code.length ≤ 80)
theorem fewB_not {L : List FnD} {j : Nat} (hj : j < L.length) (h : ¬ (L[j]).code.length ≤ 80) : fewB L = false := by
  unfold fewB
  rw [Bool.and_eq_false_iff]
  refine .inr (Bool.eq_false_iff.2 fun hh => ?_)
  rw [List.all_eq_true] at hh
  exact h (of_decide_eq_true (hh _ (List.getElem_mem hj)))
theorem fewB_all {L : List FnD} (h0 : L.length ≤ 12) (h : ∀ j (hj : j < L.length), (L[j]).code.length ≤ 80) : fewB L = true := by
  unfold fewB
  rw [decide_eq_true h0, Bool.true_and, List.all_eq_true]
  intro f hf
  obtain ⟨j, hj, rfl⟩ := List.mem_iff_getElem.1 hf
  exact decide_eq_true (h j hj)
set_option maxHeartbeats 4000000 in
set_option maxRecDepth 100000 in
theorem refFew_any (A : Option Addr) (c n : Nat) (L : List FnD) (r : Bool) (w : World) (h : Sl FnR 2 w A c L) (hn : Hid (L.length = n)) (hr : Hid (fewB L = r)) :
    Calls Try.prog 7 #[.agg #[.slice A n c]] w fun e w' => e = .returned (.bool r) ∧ Bel w w' := by
  have HS0 := Lib.hid h
  have HBIG : Hid (n ≤ 9223372036854775807) := Lib.hid (by rw [← hn.out]; have := h.le; have := h.big; simp only [maxLen] at this; omega)
  clear h
  have hq0 : (w.alloc (.cells #[.slice A n c] 24)).cell? ⟨w.heap.size, 0, none⟩ = some (.slice A n c) := cell_fresh w _ _ 0 _ rfl
  have HQ0 := Lib.hid hq0
  have HBa := Lib.hid ((Bel.refl w).alloc (.cells #[.slice A n c] 24))
  by_cases h12 : n ≤ 12
  · have h12' : (n : Int) ≤ 12 := by omega
    go_enter Try.func7, Try.ntmps7
    go_wp2_with fail
    generalize w.alloc (.cells #[.slice A n c] 24) = W1 at *
    generalize w.heap.size = g at *
    clear hq0
    go_loopw [3, 4] (fun fv v wr => ∃ (k : Nat) (f : Bool), v = .int .i64 k ∧ fv = .bool f ∧ k ≤ n ∧ Hid (f = true → ∀ j (hj : j < L.length), j < k → (L[j]).code.length ≤ 80) ∧ Hid (f = false → r = false) ∧ wr = W1) (fun _ v _ => n - (intOf v).toNat)
    case atStart => exact ⟨0, true, rfl, by simp, Nat.zero_le _, Lib.hid (fun _ j hj hk => absurd hk (Nat.not_lt_zero _)), Lib.hid (fun h => by cases h), rfl⟩
    case round =>
      obtain ⟨k, f, rfl, rfl, hk, HT, HF, rfl⟩ := hrel
      have q0 := HQ0.out
      cases f
      · have HR := Lib.hid (HF.out rfl)
        rw [HR.out]
        by_cases hkn : (k : Int) < n
        · go_wp2_with fail
          go_ret
          exact ⟨by rw [HR.out]; simp, HBa.out⟩
        · go_wp2_with fail
          go_ret
          exact ⟨by rw [HR.out]; simp, HBa.out⟩
      · by_cases hkn : k = n
        · subst hkn
          have HR : Hid (r = true) := Lib.hid (by rw [← hr.out]; exact fewB_all (by rw [hn.out]; exact h12) (fun j hj => HT.out rfl j hj (by rw [← hn.out]; exact hj)))
          go_wp2_with fail
          go_ret
          rw [HR.out]
          exact ⟨by simp, HBa.out⟩
        · have hk1 : k < n := by omega
          have hk2 : (k : Int) < n := by omega
          have k0 : 0 ≤ (k : Int) := by omega
          have hkl : k < L.length := by rw [hn.out]; exact hk1
          have ek : IntKind.i64.wrap ((k : Int) + 1) = (k : Int) + 1 := wrap_i64 (by omega) (by omega)
          obtain ⟨b, o, rfl⟩ := HS0.out.addr (by rw [hn.out]; omega)
          obtain ⟨A', c', -, d1, -⟩ := fn_cells (HS0.out.mono FnR.mono HBa.out) k hkl
          obtain ⟨m, hm⟩ : ∃ m, Hid ((L[k]).code.length = m) := ⟨_, Lib.hid rfl⟩
          rw [hm.out] at d1
          have HKL := Lib.hid hkl
          clear hkn
          by_cases m80 : m ≤ 80
          · have m80' : (m : Int) ≤ 80 := by omega
            have HT' : Hid (true = true → ∀ j (hj : j < L.length), j < k + 1 → (L[j]).code.length ≤ 80) := Lib.hid (fun _ j hj hk => by
              by_cases e : j = k
              · subst e; rw [hm.out]; exact m80
              · exact HT.out rfl j hj (by omega))
            go_wp2
            go_roundw
            case rel => exact ⟨k + 1, true, by simp, by simp, by omega, HT', Lib.hid (fun h => by cases h), by first | rfl | trivial⟩
            case measure => simp [intOf]; omega
          · have m80' : ¬ (m : Int) ≤ 80 := by omega
            have HF' : Hid (false = false → r = false) := Lib.hid (fun _ => by rw [← hr.out]; exact fewB_not HKL.out (by rw [hm.out]; exact m80))
            go_wp2
            go_roundw
            case rel => exact ⟨k + 1, false, by simp, by simp, by omega, Lib.hid (fun h => by cases h), HF', by first | rfl | trivial⟩
            case measure => simp [intOf]; omega
  · have h12' : ¬ (n : Int) ≤ 12 := by omega
    have h0' : (0 : Int) < n := by omega
    have HR : Hid (r = false) := Lib.hid (by rw [← hr.out]; unfold fewB; rw [decide_eq_false (by rw [hn.out]; exact h12), Bool.false_and])
    rw [HR.out]
    go_enter Try.func7, Try.ntmps7
    go_wp2_with fail
    generalize w.alloc (.cells #[.slice A n c] 24) = W1 at *
    generalize w.heap.size = g at *
    clear hq0
    go_loopw [3, 4] (fun fv v wr => v = .int .i64 0 ∧ fv = .bool false ∧ wr = W1) (fun _ v _ => 0)
    case atStart => exact ⟨rfl, by simp, rfl⟩
    case round =>
      obtain ⟨rfl, rfl, rfl⟩ := hrel
      have q0 := HQ0.out
      go_wp2_with fail
      go_ret
      exact ⟨by simp, HBa.out⟩

/-! ### May -/
theorem progMay_not {L : List FnD} {j : Nat} (hj : j < L.length) (h : crsMay (L[j]).code = false ∨ (L[j]).args < 0 ∨ 4 < (L[j]).args ∨ (j = 0 ∧ (L[j]).args ≠ 0)) : progMay L = false := by
  rw [Bool.eq_false_iff]
  intro hh
  unfold progMay at hh
  simp only [Bool.and_eq_true, decide_eq_true_iff, List.all_eq_true] at hh
  obtain ⟨⟨⟨h0, h1⟩, h2⟩, h3⟩ := hh
  have h4 := h3 _ (List.getElem_mem hj)
  unfold fnFine at h4
  simp only [Bool.and_eq_true, decide_eq_true_iff] at h4
  obtain ⟨⟨h5, h6⟩, h7⟩ := h4
  rcases h with h | h | h | ⟨rfl, h⟩
  · rw [h7] at h; cases h
  · omega
  · omega
  · rw [List.getD_eq_getElem?_getD, List.getElem?_map, List.getElem?_eq_getElem hj] at h2
    exact h (by simpa using h2)
theorem progMay_all {L : List FnD} {n : Nat} (hn : L.length = n) (h : ∀ j (hj : j < L.length), crsMay (L[j]).code = true ∧ 0 ≤ (L[j]).args ∧ (L[j]).args ≤ 4 ∧ (j = 0 → (L[j]).args = 0)) : progMay L = decide (0 < n ∧ n ≤ 8) := by
  unfold progMay
  have e1 : L.all fnFine = true := by
    rw [List.all_eq_true]
    intro f hf
    obtain ⟨j, hj, rfl⟩ := List.mem_iff_getElem.1 hf
    obtain ⟨h1, h2, h3, h4⟩ := h j hj
    unfold fnFine
    rw [h1, decide_eq_true h2, decide_eq_true h3]
    rfl
  have e2 : (L.map FnD.args).getD 0 0 = 0 := by
    by_cases h0 : 0 < L.length
    · rw [List.getD_eq_getElem?_getD, List.getElem?_map, List.getElem?_eq_getElem h0]
      simpa using (h 0 h0).2.2.2 rfl
    · rw [List.getD_eq_getElem?_getD, List.getElem?_eq_none (by rw [List.length_map]; omega)]
      rfl
  rw [e1, e2, hn, decide_eq_true rfl, Bool.and_true, Bool.and_true, Bool.eq_iff_iff]
  simp
set_option maxHeartbeats 4000000 in
set_option maxRecDepth 100000 in
theorem refProgMay_any (A : Option Addr) (c n : Nat) (L : List FnD) (r : Bool) (w : World) (h : Sl FnR 2 w A c L) (hn : Hid (L.length = n)) (hr : Hid (progMay L = r)) :
    Calls Try.prog 54 #[.agg #[.slice A n c]] w fun e w' => e = .returned (.bool r) ∧ Bel w w' := by
  have HS0 := Lib.hid h
  have HBIG : Hid (n ≤ 9223372036854775807) := Lib.hid (by rw [← hn.out]; have := h.le; have := h.big; simp only [maxLen] at this; omega)
  clear h
  have hq0 : (w.alloc (.cells #[.slice A n c] 24)).cell? ⟨w.heap.size, 0, none⟩ = some (.slice A n c) := cell_fresh w _ _ 0 _ rfl
  have HQ0 := Lib.hid hq0
  have HBa := Lib.hid ((Bel.refl w).alloc (.cells #[.slice A n c] 24))
  go_enter Try.func54, Try.ntmps54
  go_wp2_with fail
  generalize w.alloc (.cells #[.slice A n c] 24) = W1 at *
  generalize w.heap.size = g at *
  clear hq0
  go_loopw [3] (fun v wr => ∃ k : Nat, v = .int .i64 k ∧ k ≤ n ∧ Hid (∀ j (hj : j < L.length), j < k → crsMay (L[j]).code = true ∧ 0 ≤ (L[j]).args ∧ (L[j]).args ≤ 4 ∧ (j = 0 → (L[j]).args = 0)) ∧ Bel W1 wr) (fun v _ => n - (intOf v).toNat)
  case atStart => exact ⟨0, rfl, Nat.zero_le _, Lib.hid (fun j hj hk => absurd hk (Nat.not_lt_zero _)), Bel.refl _⟩
  case round =>
    obtain ⟨k, rfl, hk, HT, hbk⟩ := hrel
    have q0 := hbk.cell HQ0.out
    have HBw := HBa.out.trans hbk
    by_cases hkn : k = n
    · subst hkn
      have HR := Lib.hid ((progMay_all hn.out (fun j hj => HT.out j hj (by rw [← hn.out]; exact hj))).symm.trans hr.out)
      by_cases k0 : 0 < k
      · by_cases k1 : k ≤ 8
        · have k0' : (1 : Int) ≤ k := by omega
          have k1' : (k : Int) ≤ 8 := by omega
          go_wp2_with fail
          go_ret
          rw [← HR.out, decide_eq_true ⟨k0, k1⟩]
          exact ⟨by simp, HBw⟩
        · have k0' : (1 : Int) ≤ k := by omega
          have k1' : ¬ (k : Int) ≤ 8 := by omega
          go_wp2_with fail
          go_ret
          rw [← HR.out, decide_eq_false (fun h => k1 h.2)]
          exact ⟨by simp, HBw⟩
      · have k0' : ¬ (1 : Int) ≤ k := by omega
        go_wp2_with fail
        go_ret
        rw [← HR.out, decide_eq_false (fun h => k0 h.1)]
        exact ⟨by simp, HBw⟩
    · have hk1 : k < n := by omega
      have hk2 : (k : Int) < n := by omega
      have k0 : 0 ≤ (k : Int) := by omega
      have HKL : Hid (k < L.length) := Lib.hid (by rw [hn.out]; exact hk1)
      have HEK : Hid (IntKind.i64.wrap ((k : Int) + 1) = (k : Int) + 1) := Lib.hid (wrap_i64 (by omega) (by have := HBIG.out; omega))
      obtain ⟨b, o, rfl⟩ := HS0.out.addr (by rw [hn.out]; omega)
      obtain ⟨A', c', d0, d1, hsc⟩ := fn_cells (HS0.out.mono FnR.mono HBw) k HKL.out
      have HSC := Lib.hid hsc
      obtain ⟨f, hf⟩ : ∃ f, Hid (L[k]'HKL.out = f) := ⟨_, Lib.hid rfl⟩
      rw [hf.out] at d0 d1 HSC
      obtain ⟨gg, l⟩ := f
      simp only at d0 d1 HSC
      obtain ⟨m, hm⟩ : ∃ m, Hid (l.length = m) := ⟨_, Lib.hid rfl⟩
      rw [hm.out] at d1
      obtain ⟨cb, hcb⟩ : ∃ cb, Hid (crsMay l = cb) := ⟨_, Lib.hid rfl⟩
      clear hkn hsc
      go_wp2_with fail
      refine (refCode_any gg A' c' m l cb _ HSC.out hm hcb).mono ?_
      rintro e w2 ⟨rfl, hb⟩
      have HBk := Lib.hid (hbk.trans hb)
      have q0 := hb.cell q0
      have d0 := hb.cell d0
      have HBw := HBw.trans hb
      have NOT : Hid (crsMay l = false ∨ gg < 0 ∨ 4 < gg ∨ (k = 0 ∧ gg ≠ 0) → r = false) := Lib.hid (fun h => by
        rw [← hr.out]
        refine progMay_not HKL.out ?_
        rw [hf.out]
        exact h)
      clear hb hbk d1
      cases cb
      · have HR := Lib.hid (NOT.out (.inl hcb.out))
        go_wp2_with fail
        go_ret
        rw [HR.out]
        exact ⟨rfl, HBw⟩
      · by_cases g0 : gg < 0
        · have HR := Lib.hid (NOT.out (.inr (.inl g0)))
          go_wp2_with fail
          go_ret
          rw [HR.out]
          exact ⟨rfl, HBw⟩
        · by_cases g4 : 4 < gg
          · have HR := Lib.hid (NOT.out (.inr (.inr (.inl g4))))
            go_wp2_with fail
            go_ret
            rw [HR.out]
            exact ⟨rfl, HBw⟩
          · have g0' : 0 ≤ gg := by omega
            have g4' : gg ≤ 4 := by omega
            by_cases hk0 : k = 0
            · subst hk0
              simp only [Nat.zero_mul, Nat.add_zero] at d0
              by_cases gz : gg = 0
              · subst gz
                have HT' : Hid (∀ j (hj : j < L.length), j < 0 + 1 → crsMay (L[j]).code = true ∧ 0 ≤ (L[j]).args ∧ (L[j]).args ≤ 4 ∧ (j = 0 → (L[j]).args = 0)) := Lib.hid (fun j hj hk => by
                  obtain rfl : j = 0 := by omega
                  rw [hf.out]
                  exact ⟨hcb.out, by simp, by simp, fun _ => rfl⟩)
                clear g0 g4 NOT
                go_wp2
                go_roundw
                case rel => exact ⟨0 + 1, by simp, by omega, HT', HBk.out⟩
                case measure => simp [intOf]; omega
              · have gz' : (gg != 0) = true := by simpa using gz
                have HR := Lib.hid (NOT.out (.inr (.inr (.inr ⟨rfl, gz⟩))))
                go_wp2_with fail
                go_ret
                rw [HR.out]
                exact ⟨rfl, HBw⟩
            · have hk0' : ((k : Int) == 0) = false := by simp; omega
              have HT' : Hid (∀ j (hj : j < L.length), j < k + 1 → crsMay (L[j]).code = true ∧ 0 ≤ (L[j]).args ∧ (L[j]).args ≤ 4 ∧ (j = 0 → (L[j]).args = 0)) := Lib.hid (fun j hj hk => by
                by_cases e : j = k
                · subst e
                  rw [hf.out]
                  exact ⟨hcb.out, g0', g4', fun e => absurd e hk0⟩
                · exact HT.out j hj (by omega))
              have ek := HEK.out
              clear hk0 NOT
              go_wp2
              go_roundw
              case rel => exact ⟨k + 1, by simp, by omega, HT', HBk.out⟩
              case measure => simp [intOf]; omega
end Go.Proofs.Ytebdnobgdimdoaa
