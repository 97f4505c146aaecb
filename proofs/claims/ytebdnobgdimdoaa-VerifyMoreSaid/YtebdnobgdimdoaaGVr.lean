/- The document's 'Code', 'May' and 'Few' of a program (cut out of the texts of chapter 8). The examples of chapter 11. The document's Own, and rows of functions (cut from chapter 3 for chapter 11). VerifyRead: plain laws. A program, and schemas, read, among the texts of chapter 11. VerifyMore: its walk. -/
import Derived.Test.YtebdnobgdimdoaaPg1
import Derived.Test.YtebdnobgdimdoaaRefMay
import Derived.RangeFuncBox
import Derived.Test.YtebdnobgdimdoaaGVs
import Derived.Test.YtebdnobgdimdoaaHeldU
import Derived.OneCell
import Derived.Test.YtebdnobgdimdoaaGVx
set_option linter.unusedVariables false
set_option linter.unusedSimpArgs false
namespace Go.Proofs.Ytebdnobgdimdoaa
open Go.RowKit
theorem cell_fresh (w : World) (a : Array Value) (t : TypeId) (k : Nat) (v : Value) (h : a[k]? = some v) : (w.alloc (.cells a t)).cell? ⟨w.heap.size, k, none⟩ = some v := by
  have e := World.alloc_heap_new w (.cells a t)
  unfold World.cell?
  simp only
  rw [e]
  exact h

theorem crsMay_all {l : List InstD} {n : Nat} (hn : l.length = n) (h : ∀ j, j < n → (l[j]!).okB = true) : crsMay l = decide (0 < n ∧ n ≤ 64) := by
  unfold crsMay
  rw [hn]
  have : l.all InstD.okB = true := by
    rw [List.all_eq_true]
    intro x hx
    obtain ⟨j, hj, rfl⟩ := List.mem_iff_getElem.1 hx
    have := h j (by omega)
    rwa [getElem!_pos l j hj] at this
  rw [this, Bool.and_true]
theorem crsMay_not {l : List InstD} {j : Nat} (hj : j < l.length) (h : (l[j]!).okB = false) : crsMay l = false := by
  unfold crsMay
  have : l.all InstD.okB = false := by
    rw [Bool.eq_false_iff]
    intro hh
    rw [List.all_eq_true] at hh
    have := hh _ (List.getElem_mem hj)
    rw [getElem!_pos l j hj] at h
    rw [h] at this
    cases this
  rw [this, Bool.and_false]
set_option maxHeartbeats 4000000 in
set_option maxRecDepth 100000 in
theorem refCode_any (gg : Int) (A : Option Addr) (c n : Nat) (l : List InstD) (r : Bool) (w : World) (h : Sl InstR 7 w A c l) (hn : Hid (l.length = n)) (hr : Hid (crsMay l = r)) :
    Calls Try.prog 81 #[.agg #[.int .i64 gg, .slice A n c]] w fun e w' => e = .returned (.bool r) ∧ Bel w w' := by
  have HS0 := Lib.hid h
  have hbig : n ≤ 9223372036854775807 := by rw [← hn.out]; have := h.le; have := h.big; simp only [maxLen] at this; omega
  have HBIG := Lib.hid hbig
  clear h hbig
  have HB1 := Bel.refl (w.alloc (.cells #[.int .i64 gg, .slice A n c] 34))
  have hq1 : (w.alloc (.cells #[.int .i64 gg, .slice A n c] 34)).cell? ⟨w.heap.size, 1, none⟩ = some (.slice A n c) := cell_fresh w _ _ 1 _ rfl
  have HQ1 := Lib.hid hq1
  have HBa := Lib.hid ((Bel.refl w).alloc (.cells #[.int .i64 gg, .slice A n c] 34))
  go_enter Try.func81, Try.ntmps81
  go_wp2_with fail
  generalize w.alloc (.cells #[.int .i64 gg, .slice A n c] 34) = W1 at *
  generalize w.heap.size = g at *
  clear hq1
  go_loopw [3] (fun v wr => ∃ k : Nat, v = .int .i64 k ∧ k ≤ n ∧ Hid (∀ j, j < k → (l[j]!).okB = true) ∧ Bel W1 wr) (fun v _ => n - (intOf v).toNat)
  case atStart => exact ⟨0, rfl, Nat.zero_le _, Lib.hid (fun j hj => absurd hj (Nat.not_lt_zero _)), Bel.refl _⟩
  case round =>
    obtain ⟨k, rfl, hk, HE, hbk⟩ := hrel
    have q1 := hbk.cell HQ1.out
    have HBw := HBa.out.trans hbk
    by_cases hkn : k = n
    · subst hkn
      have HR := Lib.hid ((crsMay_all hn.out HE.out).symm.trans hr.out)
      by_cases k0 : 0 < k
      · by_cases k1 : k ≤ 64
        · have k0' : (1 : Int) ≤ k := by omega
          have k1' : (k : Int) ≤ 64 := by omega
          go_wp2_with fail
          go_ret
          rw [← HR.out, decide_eq_true ⟨k0, k1⟩]
          exact ⟨by simp, HBw⟩
        · have k0' : (1 : Int) ≤ k := by omega
          have k1' : ¬ (k : Int) ≤ 64 := by omega
          go_wp2_with fail
          go_ret
          rw [← HR.out, decide_eq_false (fun h => k1 h.2)]
          exact ⟨by simp, HBw⟩
      · have k0' : ¬ (1 : Int) ≤ k := by omega
        go_wp2_with fail
        go_ret
        rw [← HR.out, decide_eq_false (fun h => k0 h.1)]
        exact ⟨by simp, HBw⟩
    · have hk1 : k < n := by omega
      have hk2 : (k : Int) < n := by omega
      have k0 : 0 ≤ (k : Int) := by omega
      have HEK : Hid (IntKind.i64.wrap ((k : Int) + 1) = (k : Int) + 1) := Lib.hid (wrap_i64 (by omega) (by have := HBIG.out; omega))
      have HKL : Hid (k < l.length) := Lib.hid (by rw [hn.out]; exact hk1)
      have HSr := HS0.out.mono InstR.mono HBw
      obtain ⟨b0, o0, rfl⟩ := HSr.addr (by rw [hn.out]; omega)
      have hcells := inst_cells HSr k HKL.out
      obtain ⟨o, ho⟩ : ∃ o, Hid ((l[k]!).okB = o) := ⟨_, Lib.hid rfl⟩
      have ho2 := ho.out
      generalize l[k]! = I at hcells ho2
      obtain ⟨op, fn, dst, src, reg, off, imm⟩ := I
      have d0 := hcells 0 _ rfl
      have d1 := hcells 1 _ rfl
      have d2 := hcells 2 _ rfl
      have d3 := hcells 3 _ rfl
      have d4 := hcells 4 _ rfl
      have d5 := hcells 5 _ rfl
      have d6 := hcells 6 _ rfl
      rw [Nat.add_zero] at d0
      have HO : Hid (mayB op fn dst src reg off imm = o) := Lib.hid ho2
      clear hcells ho2 HSr hkn
      go_wp2_with fail
      refine (refmay_any op fn dst src reg off imm _).mono ?_
      rw [HO.out]
      rintro e w2 ⟨rfl, hb⟩
      have HBk := Lib.hid (hbk.trans hb)
      have HBw := HBw.trans hb
      clear hb q1 d0 d1 d2 d3 d4 d5 d6
      cases o
      · have HR : Hid (r = false) := Lib.hid (by rw [← hr.out]; exact crsMay_not HKL.out ho.out)
        go_wp2_with fail
        go_ret
        rw [HR.out]
        exact ⟨rfl, HBw⟩
      · have ek := HEK.out
        go_wp2
        go_roundw
        case rel => exact ⟨k + 1, by simp, by omega, Lib.hid (fun j hj => by
          by_cases e : j = k
          · subst e; exact ho.out
          · exact HE.out j (by omega)), HBk.out⟩
        case measure => simp [intOf]; omega
def fewB (L : List FnD) : Bool := decide (L.length ≤ 12) && L.all fun f => decide (f.code.length ≤ 80)
theorem fewB_not {L : List FnD} {j : Nat} (hj : j < L.length) (h : ¬ (L[j]).code.length ≤ 80) : fewB L = false := by
  unfold fewB
  rw [Bool.and_eq_false_iff]
  refine .inr (Bool.eq_false_iff.2 fun hh => ?_)
  rw [List.all_eq_true] at hh
  exact h (of_decide_eq_true (hh _ (List.getElem_mem hj)))
theorem fewB_all {L : List FnD} (h0 : L.length ≤ 12) (h : ∀ j (hj : j < L.length), (L[j]).code.length ≤ 80) : fewB L = true := by
  unfold fewB
  rw [decide_eq_true h0, Bool.true_and, List.all_eq_true]
  intro f hf
  obtain ⟨j, hj, rfl⟩ := List.mem_iff_getElem.1 hf
  exact decide_eq_true (h j hj)
set_option maxHeartbeats 4000000 in
set_option maxRecDepth 100000 in
theorem refFew_any (A : Option Addr) (c n : Nat) (L : List FnD) (r : Bool) (w : World) (h : Sl FnR 2 w A c L) (hn : Hid (L.length = n)) (hr : Hid (fewB L = r)) :
    Calls Try.prog 7 #[.agg #[.slice A n c]] w fun e w' => e = .returned (.bool r) ∧ Bel w w' := by
  have HS0 := Lib.hid h
  have HBIG : Hid (n ≤ 9223372036854775807) := Lib.hid (by rw [← hn.out]; have := h.le; have := h.big; simp only [maxLen] at this; omega)
  clear h
  have hq0 : (w.alloc (.cells #[.slice A n c] 24)).cell? ⟨w.heap.size, 0, none⟩ = some (.slice A n c) := cell_fresh w _ _ 0 _ rfl
  have HQ0 := Lib.hid hq0
  have HBa := Lib.hid ((Bel.refl w).alloc (.cells #[.slice A n c] 24))
  by_cases h12 : n ≤ 12
  · have h12' : (n : Int) ≤ 12 := by omega
    go_enter Try.func7, Try.ntmps7
    go_wp2_with fail
    generalize w.alloc (.cells #[.slice A n c] 24) = W1 at *
    generalize w.heap.size = g at *
    clear hq0
    go_loopw [3, 4] (fun fv v wr => ∃ (k : Nat) (f : Bool), v = .int .i64 k ∧ fv = .bool f ∧ k ≤ n ∧ Hid (f = true → ∀ j (hj : j < L.length), j < k → (L[j]).code.length ≤ 80) ∧ Hid (f = false → r = false) ∧ wr = W1) (fun _ v _ => n - (intOf v).toNat)
    case atStart => exact ⟨0, true, rfl, by simp, Nat.zero_le _, Lib.hid (fun _ j hj hk => absurd hk (Nat.not_lt_zero _)), Lib.hid (fun h => by cases h), rfl⟩
    case round =>
      obtain ⟨k, f, rfl, rfl, hk, HT, HF, rfl⟩ := hrel
      have q0 := HQ0.out
      cases f
      · have HR := Lib.hid (HF.out rfl)
        rw [HR.out]
        by_cases hkn : (k : Int) < n
        · go_wp2_with fail
          go_ret
          exact ⟨by rw [HR.out]; simp, HBa.out⟩
        · go_wp2_with fail
          go_ret
          exact ⟨by rw [HR.out]; simp, HBa.out⟩
      · by_cases hkn : k = n
        · subst hkn
          have HR : Hid (r = true) := Lib.hid (by rw [← hr.out]; exact fewB_all (by rw [hn.out]; exact h12) (fun j hj => HT.out rfl j hj (by rw [← hn.out]; exact hj)))
          go_wp2_with fail
          go_ret
          rw [HR.out]
          exact ⟨by simp, HBa.out⟩
        · have hk1 : k < n := by omega
          have hk2 : (k : Int) < n := by omega
          have k0 : 0 ≤ (k : Int) := by omega
          have hkl : k < L.length := by rw [hn.out]; exact hk1
          have ek : IntKind.i64.wrap ((k : Int) + 1) = (k : Int) + 1 := wrap_i64 (by omega) (by omega)
          obtain ⟨b, o, rfl⟩ := HS0.out.addr (by rw [hn.out]; omega)
          obtain ⟨A', c', -, d1, -⟩ := fn_cells (HS0.out.mono FnR.mono HBa.out) k hkl
          obtain ⟨m, hm⟩ : ∃ m, Hid ((L[k]).code.length = m) := ⟨_, Lib.hid rfl⟩
          rw [hm.out] at d1
          have HKL := Lib.hid hkl
          clear hkn
          by_cases m80 : m ≤ 80
          · have m80' : (m : Int) ≤ 80 := by omega
            have HT' : Hid (true = true → ∀ j (hj : j < L.length), j < k + 1 → (L[j]).code.length ≤ 80) := Lib.hid (fun _ j hj hk => by
              by_cases e : j = k
              · subst e; rw [hm.out]; exact m80
              · exact HT.out rfl j hj (by omega))
            go_wp2
            go_roundw
            case rel => exact ⟨k + 1, true, by simp, by simp, by omega, HT', Lib.hid (fun h => by cases h), by first | rfl | trivial⟩
            case measure => simp [intOf]; omega
          · have m80' : ¬ (m : Int) ≤ 80 := by omega
            have HF' : Hid (false = false → r = false) := Lib.hid (fun _ => by rw [← hr.out]; exact fewB_not HKL.out (by rw [hm.out]; exact m80))
            go_wp2
            go_roundw
            case rel => exact ⟨k + 1, false, by simp, by simp, by omega, Lib.hid (fun h => by cases h), HF', by first | rfl | trivial⟩
            case measure => simp [intOf]; omega
  · have h12' : ¬ (n : Int) ≤ 12 := by omega
    have h0' : (0 : Int) < n := by omega
    have HR : Hid (r = false) := Lib.hid (by rw [← hr.out]; unfold fewB; rw [decide_eq_false (by rw [hn.out]; exact h12), Bool.false_and])
    rw [HR.out]
    go_enter Try.func7, Try.ntmps7
    go_wp2_with fail
    generalize w.alloc (.cells #[.slice A n c] 24) = W1 at *
    generalize w.heap.size = g at *
    clear hq0
    go_loopw [3, 4] (fun fv v wr => v = .int .i64 0 ∧ fv = .bool false ∧ wr = W1) (fun _ v _ => 0)
    case atStart => exact ⟨rfl, by simp, rfl⟩
    case round =>
      obtain ⟨rfl, rfl, rfl⟩ := hrel
      have q0 := HQ0.out
      go_wp2_with fail
      go_ret
      exact ⟨by simp, HBa.out⟩

/-! ### May -/
theorem progMay_not {L : List FnD} {j : Nat} (hj : j < L.length) (h : crsMay (L[j]).code = false ∨ (L[j]).args < 0 ∨ 4 < (L[j]).args ∨ (j = 0 ∧ (L[j]).args ≠ 0)) : progMay L = false := by
  rw [Bool.eq_false_iff]
  intro hh
  unfold progMay at hh
  simp only [Bool.and_eq_true, decide_eq_true_iff, List.all_eq_true] at hh
  obtain ⟨⟨⟨h0, h1⟩, h2⟩, h3⟩ := hh
  have h4 := h3 _ (List.getElem_mem hj)
  unfold fnFine at h4
  simp only [Bool.and_eq_true, decide_eq_true_iff] at h4
  obtain ⟨⟨h5, h6⟩, h7⟩ := h4
  rcases h with h | h | h | ⟨rfl, h⟩
  · rw [h7] at h; cases h
  · omega
  · omega
  · rw [List.getD_eq_getElem?_getD, List.getElem?_map, List.getElem?_eq_getElem hj] at h2
    exact h (by simpa using h2)
theorem progMay_all {L : List FnD} {n : Nat} (hn : L.length = n) (h : ∀ j (hj : j < L.length), crsMay (L[j]).code = true ∧ 0 ≤ (L[j]).args ∧ (L[j]).args ≤ 4 ∧ (j = 0 → (L[j]).args = 0)) : progMay L = decide (0 < n ∧ n ≤ 8) := by
  unfold progMay
  have e1 : L.all fnFine = true := by
    rw [List.all_eq_true]
    intro f hf
    obtain ⟨j, hj, rfl⟩ := List.mem_iff_getElem.1 hf
    obtain ⟨h1, h2, h3, h4⟩ := h j hj
    unfold fnFine
    rw [h1, decide_eq_true h2, decide_eq_true h3]
    rfl
  have e2 : (L.map FnD.args).getD 0 0 = 0 := by
    by_cases h0 : 0 < L.length
    · rw [List.getD_eq_getElem?_getD, List.getElem?_map, List.getElem?_eq_getElem h0]
      simpa using (h 0 h0).2.2.2 rfl
    · rw [List.getD_eq_getElem?_getD, List.getElem?_eq_none (by rw [List.length_map]; omega)]
      rfl
  rw [e1, e2, hn, decide_eq_true rfl, Bool.and_true, Bool.and_true, Bool.eq_iff_iff]
  simp
set_option maxHeartbeats 4000000 in
set_option maxRecDepth 100000 in
theorem refProgMay_any (A : Option Addr) (c n : Nat) (L : List FnD) (r : Bool) (w : World) (h : Sl FnR 2 w A c L) (hn : Hid (L.length = n)) (hr : Hid (progMay L = r)) :
    Calls Try.prog 54 #[.agg #[.slice A n c]] w fun e w' => e = .returned (.bool r) ∧ Bel w w' := by
  have HS0 := Lib.hid h
  have HBIG : Hid (n ≤ 9223372036854775807) := Lib.hid (by rw [← hn.out]; have := h.le; have := h.big; simp only [maxLen] at this; omega)
  clear h
  have hq0 : (w.alloc (.cells #[.slice A n c] 24)).cell? ⟨w.heap.size, 0, none⟩ = some (.slice A n c) := cell_fresh w _ _ 0 _ rfl
  have HQ0 := Lib.hid hq0
  have HBa := Lib.hid ((Bel.refl w).alloc (.cells #[.slice A n c] 24))
  go_enter Try.func54, Try.ntmps54
  go_wp2_with fail
  generalize w.alloc (.cells #[.slice A n c] 24) = W1 at *
  generalize w.heap.size = g at *
  clear hq0
  go_loopw [3] (fun v wr => ∃ k : Nat, v = .int .i64 k ∧ k ≤ n ∧ Hid (∀ j (hj : j < L.length), j < k → crsMay (L[j]).code = true ∧ 0 ≤ (L[j]).args ∧ (L[j]).args ≤ 4 ∧ (j = 0 → (L[j]).args = 0)) ∧ Bel W1 wr) (fun v _ => n - (intOf v).toNat)
  case atStart => exact ⟨0, rfl, Nat.zero_le _, Lib.hid (fun j hj hk => absurd hk (Nat.not_lt_zero _)), Bel.refl _⟩
  case round =>
    obtain ⟨k, rfl, hk, HT, hbk⟩ := hrel
    have q0 := hbk.cell HQ0.out
    have HBw := HBa.out.trans hbk
    by_cases hkn : k = n
    · subst hkn
      have HR := Lib.hid ((progMay_all hn.out (fun j hj => HT.out j hj (by rw [← hn.out]; exact hj))).symm.trans hr.out)
      by_cases k0 : 0 < k
      · by_cases k1 : k ≤ 8
        · have k0' : (1 : Int) ≤ k := by omega
          have k1' : (k : Int) ≤ 8 := by omega
          go_wp2_with fail
          go_ret
          rw [← HR.out, decide_eq_true ⟨k0, k1⟩]
          exact ⟨by simp, HBw⟩
        · have k0' : (1 : Int) ≤ k := by omega
          have k1' : ¬ (k : Int) ≤ 8 := by omega
          go_wp2_with fail
          go_ret
          rw [← HR.out, decide_eq_false (fun h => k1 h.2)]
          exact ⟨by simp, HBw⟩
      · have k0' : ¬ (1 : Int) ≤ k := by omega
        go_wp2_with fail
        go_ret
        rw [← HR.out, decide_eq_false (fun h => k0 h.1)]
        exact ⟨by simp, HBw⟩
    · have hk1 : k < n := by omega
      have hk2 : (k : Int) < n := by omega
      have k0 : 0 ≤ (k : Int) := by omega
      have HKL : Hid (k < L.length) := Lib.hid (by rw [hn.out]; exact hk1)
      have HEK : Hid (IntKind.i64.wrap ((k : Int) + 1) = (k : Int) + 1) := Lib.hid (wrap_i64 (by omega) (by have := HBIG.out; omega))
      obtain ⟨b, o, rfl⟩ := HS0.out.addr (by rw [hn.out]; omega)
      obtain ⟨A', c', d0, d1, hsc⟩ := fn_cells (HS0.out.mono FnR.mono HBw) k HKL.out
      have HSC := Lib.hid hsc
      obtain ⟨f, hf⟩ : ∃ f, Hid (L[k]'HKL.out = f) := ⟨_, Lib.hid rfl⟩
      rw [hf.out] at d0 d1 HSC
      obtain ⟨gg, l⟩ := f
      simp only at d0 d1 HSC
      obtain ⟨m, hm⟩ : ∃ m, Hid (l.length = m) := ⟨_, Lib.hid rfl⟩
      rw [hm.out] at d1
      obtain ⟨cb, hcb⟩ : ∃ cb, Hid (crsMay l = cb) := ⟨_, Lib.hid rfl⟩
      clear hkn hsc
      go_wp2_with fail
      refine (refCode_any gg A' c' m l cb _ HSC.out hm hcb).mono ?_
      rintro e w2 ⟨rfl, hb⟩
      have HBk := Lib.hid (hbk.trans hb)
      have q0 := hb.cell q0
      have d0 := hb.cell d0
      have HBw := HBw.trans hb
      have NOT : Hid (crsMay l = false ∨ gg < 0 ∨ 4 < gg ∨ (k = 0 ∧ gg ≠ 0) → r = false) := Lib.hid (fun h => by
        rw [← hr.out]
        refine progMay_not HKL.out ?_
        rw [hf.out]
        exact h)
      clear hb hbk d1
      cases cb
      · have HR := Lib.hid (NOT.out (.inl hcb.out))
        go_wp2_with fail
        go_ret
        rw [HR.out]
        exact ⟨rfl, HBw⟩
      · by_cases g0 : gg < 0
        · have HR := Lib.hid (NOT.out (.inr (.inl g0)))
          go_wp2_with fail
          go_ret
          rw [HR.out]
          exact ⟨rfl, HBw⟩
        · by_cases g4 : 4 < gg
          · have HR := Lib.hid (NOT.out (.inr (.inr (.inl g4))))
            go_wp2_with fail
            go_ret
            rw [HR.out]
            exact ⟨rfl, HBw⟩
          · have g0' : 0 ≤ gg := by omega
            have g4' : gg ≤ 4 := by omega
            by_cases hk0 : k = 0
            · subst hk0
              simp only [Nat.zero_mul, Nat.add_zero] at d0
              by_cases gz : gg = 0
              · subst gz
                have HT' : Hid (∀ j (hj : j < L.length), j < 0 + 1 → crsMay (L[j]).code = true ∧ 0 ≤ (L[j]).args ∧ (L[j]).args ≤ 4 ∧ (j = 0 → (L[j]).args = 0)) := Lib.hid (fun j hj hk => by
                  obtain rfl : j = 0 := by omega
                  rw [hf.out]
                  exact ⟨hcb.out, by simp, by simp, fun _ => rfl⟩)
                clear g0 g4 NOT
                go_wp2
                go_roundw
                case rel => exact ⟨0 + 1, by simp, by omega, HT', HBk.out⟩
                case measure => simp [intOf]; omega
              · have gz' : (gg != 0) = true := by simpa using gz
                have HR := Lib.hid (NOT.out (.inr (.inr (.inr ⟨rfl, gz⟩))))
                go_wp2_with fail
                go_ret
                rw [HR.out]
                exact ⟨rfl, HBw⟩
            · have hk0' : ((k : Int) == 0) = false := by simp; omega
              have HT' : Hid (∀ j (hj : j < L.length), j < k + 1 → crsMay (L[j]).code = true ∧ 0 ≤ (L[j]).args ∧ (L[j]).args ≤ 4 ∧ (j = 0 → (L[j]).args = 0)) := Lib.hid (fun j hj hk => by
                by_cases e : j = k
                · subst e
                  rw [hf.out]
                  exact ⟨hcb.out, g0', g4', fun e => absurd e hk0⟩
                · exact HT.out j hj (by omega))
              have ek := HEK.out
              clear hk0 NOT
              go_wp2
              go_roundw
              case rel => exact ⟨k + 1, by simp, by omega, HT', HBk.out⟩
              case measure => simp [intOf]; omega
end Go.Proofs.Ytebdnobgdimdoaa
set_option linter.unusedVariables false
set_option linter.unusedSimpArgs false
namespace Go.Proofs.Ytebdnobgdimdoaa
open Go.RowKit

def vI0 : InstD := ⟨0, 0, 0, 0, false, 0, 5⟩
def vI1 : InstD := ⟨7, 0, 0, 0, false, 0, 0⟩
def vP2 : List FnD := [⟨0, [vI0, vI1]⟩]
def vP1 : List FnD := [⟨0, [vI1]⟩]
theorem vP2_v : verifyV vP2 [] = (2, 0) := by decide +kernel
theorem vP1_v : verifyV vP1 [] = (0, 8) := by decide +kernel
theorem vI0_wf : vI0.Wf := ⟨by constructor <;> decide, by constructor <;> decide, by constructor <;> decide, by constructor <;> decide, by constructor <;> decide, by constructor <;> decide⟩
theorem vI1_wf : vI1.Wf := ⟨by constructor <;> decide, by constructor <;> decide, by constructor <;> decide, by constructor <;> decide, by constructor <;> decide, by constructor <;> decide⟩
theorem steps_of {p : List FnD} {ls : List SchD} {fn : Nat} (h : ∀ k ins s, vUpto p fn ls ((p.map FnD.code).getD fn []) ((p.map FnD.args).getD fn 0).toNat k = some ins → k < ((p.map FnD.code).getD fn []).length → ins.getD k none = some s → StepOk (((p.map FnD.code).getD fn [])[k]!).op) : StepsFor p ls fn := fun _ k ins s h1 h2 h3 => h k ins s h1 h2 h3
theorem vP2_s (fn : Nat) (h : fn < max 1 vP2.length) : StepsFor vP2 [] fn := by
  obtain rfl : fn = 0 := by have : vP2.length = 1 := rfl; omega
  refine steps_of (fun k ins s _ hk _ => ?_)
  have hk2 : k < 2 := hk
  match k, hk2 with
  | 0, _ => exact step_alu
  | 1, _ => exact step_exit
theorem vP1_s (fn : Nat) (h : fn < max 1 vP1.length) : StepsFor vP1 [] fn := by
  obtain rfl : fn = 0 := by have : vP1.length = 1 := rfl; omega
  refine steps_of (fun k ins s _ hk _ => ?_)
  have hk2 : k < 1 := hk
  match k, hk2 with
  | 0, _ => exact step_exit
theorem vi2 (w : World) : Sl InstR 7 (w.alloc (.cells #[.int .i64 0, .int .i64 0, .int .i64 0, .int .i64 0, .bool false, .int .i64 0, .int .u32 5, .int .i64 7, .int .i64 0, .int .i64 0, .int .i64 0, .bool false, .int .i64 0, .int .u32 0] 32)) (some ⟨w.heap.size, 0, none⟩) 2 [vI0, vI1] := by
  refine ⟨Nat.le_refl _, (by decide : 2 ≤ maxLen), fun i hi => ?_⟩
  have hi2 : i < 2 := hi
  by_cases h0 : i = 0
  · subst h0
    refine ⟨w.heap.size, 0, vI0.cells, rfl, rfl, ⟨rfl, vI0_wf⟩, fun j v hv => ?_⟩
    have hj : j < 7 := (List.getElem?_eq_some_iff.1 hv).1
    rw [show 0 + 0 * 7 + j = j by omega]
    refine cell_fresh w _ _ j v ?_
    match j, hj with
    | 0, _ => exact hv
    | 1, _ => exact hv
    | 2, _ => exact hv
    | 3, _ => exact hv
    | 4, _ => exact hv
    | 5, _ => exact hv
    | 6, _ => exact hv
  · obtain rfl : i = 1 := by omega
    refine ⟨w.heap.size, 0, vI1.cells, rfl, rfl, ⟨rfl, vI1_wf⟩, fun j v hv => ?_⟩
    have hj : j < 7 := (List.getElem?_eq_some_iff.1 hv).1
    rw [show 0 + 1 * 7 + j = 7 + j by omega]
    refine cell_fresh w _ _ (7 + j) v ?_
    match j, hj with
    | 0, _ => exact hv
    | 1, _ => exact hv
    | 2, _ => exact hv
    | 3, _ => exact hv
    | 4, _ => exact hv
    | 5, _ => exact hv
    | 6, _ => exact hv
theorem vi1 (w : World) : Sl InstR 7 (w.alloc (.cells #[.int .i64 7, .int .i64 0, .int .i64 0, .int .i64 0, .bool false, .int .i64 0, .int .u32 0] 32)) (some ⟨w.heap.size, 0, none⟩) 1 [vI1] := by
  refine ⟨Nat.le_refl _, (by decide : 1 ≤ maxLen), fun i hi => ?_⟩
  have hi2 : i < 1 := hi
  · obtain rfl : i = 0 := by omega
    refine ⟨w.heap.size, 0, vI1.cells, rfl, rfl, ⟨rfl, vI1_wf⟩, fun j v hv => ?_⟩
    have hj : j < 7 := (List.getElem?_eq_some_iff.1 hv).1
    rw [show 0 + 0 * 7 + j = j by omega]
    refine cell_fresh w _ _ j v ?_
    match j, hj with
    | 0, _ => exact hv
    | 1, _ => exact hv
    | 2, _ => exact hv
    | 3, _ => exact hv
    | 4, _ => exact hv
    | 5, _ => exact hv
    | 6, _ => exact hv
theorem vp2 (w : World) : Sl FnR 2 ((w.alloc (.cells #[.int .i64 0, .int .i64 0, .int .i64 0, .int .i64 0, .bool false, .int .i64 0, .int .u32 5, .int .i64 7, .int .i64 0, .int .i64 0, .int .i64 0, .bool false, .int .i64 0, .int .u32 0] 32)).alloc (.cells #[.int .i64 0, .slice (some ⟨w.heap.size, 0, none⟩) 2 2] 34)) (some ⟨w.heap.size + 1, 0, none⟩) 1 vP2 := by
  have hs := vi2 w
  have hz : w.heap.size + 1 = (w.alloc (.cells #[.int .i64 0, .int .i64 0, .int .i64 0, .int .i64 0, .bool false, .int .i64 0, .int .u32 5, .int .i64 7, .int .i64 0, .int .i64 0, .int .i64 0, .bool false, .int .i64 0, .int .u32 0] 32)).heap.size := by simp
  rw [hz]
  exact ⟨Nat.le_refl _, (by decide : 1 ≤ maxLen), fun i hi => by
    obtain rfl : i = 0 := by simpa [vP2] using hi
    refine ⟨_, 0, [.int .i64 0, .slice (some ⟨w.heap.size, 0, none⟩) 2 2], rfl, rfl, ⟨_, 2, rfl, hs.mono InstR.mono ((Bel.refl _).alloc _), (by decide : (Lit.int .i64 0).wf = true)⟩, fun j v hv => ?_⟩
    rw [show 0 + 0 * 2 + j = j by omega]
    exact cell_fresh _ _ _ j v (by simpa using hv)⟩
theorem vp1 (w : World) : Sl FnR 2 ((w.alloc (.cells #[.int .i64 7, .int .i64 0, .int .i64 0, .int .i64 0, .bool false, .int .i64 0, .int .u32 0] 32)).alloc (.cells #[.int .i64 0, .slice (some ⟨w.heap.size, 0, none⟩) 1 1] 34)) (some ⟨w.heap.size + 1, 0, none⟩) 1 vP1 := by
  have hs := vi1 w
  have hz : w.heap.size + 1 = (w.alloc (.cells #[.int .i64 7, .int .i64 0, .int .i64 0, .int .i64 0, .bool false, .int .i64 0, .int .u32 0] 32)).heap.size := by simp
  rw [hz]
  exact ⟨Nat.le_refl _, (by decide : 1 ≤ maxLen), fun i hi => by
    obtain rfl : i = 0 := by simpa [vP1] using hi
    refine ⟨_, 0, [.int .i64 0, .slice (some ⟨w.heap.size, 0, none⟩) 1 1], rfl, rfl, ⟨_, 1, rfl, hs.mono InstR.mono ((Bel.refl _).alloc _), (by decide : (Lit.int .i64 0).wf = true)⟩, fun j v hv => ?_⟩
    rw [show 0 + 0 * 2 + j = j by omega]
    exact cell_fresh _ _ _ j v (by simpa using hv)⟩
set_option maxHeartbeats 4000000 in
set_option maxRecDepth 100000 in
theorem awake11 (w : World) : Calls Try.prog 6 #[] w fun e w' => e = .returned (.bool true) ∧ Bel w w' := by
  have KE := Bk.new w 32 #[.int .i64 7, .int .i64 0, .int .i64 0, .int .i64 0, .bool false, .int .i64 0, .int .u32 0]
  have HB0 := Lib.hid ((Bel.refl w).alloc (.cells #[.int .i64 7, .int .i64 0, .int .i64 0, .int .i64 0, .bool false, .int .i64 0, .int .u32 0] 32))
  have e0 := KE.cell 0 (v := .int .i64 7) rfl
  have e1 := KE.cell 1 (v := .int .i64 0) rfl
  have e2 := KE.cell 2 (v := .int .i64 0) rfl
  have e3 := KE.cell 3 (v := .int .i64 0) rfl
  have e4 := KE.cell 4 (v := .bool false) rfl
  have e5 := KE.cell 5 (v := .int .i64 0) rfl
  have e6 := KE.cell 6 (v := .int .u32 0) rfl
  go_enter Try.func6, Try.ntmps6
  go_wp2_with fail
  have KE := Lib.hid KE
  have hW1 : (w.alloc (.cells #[.int .i64 7, .int .i64 0, .int .i64 0, .int .i64 0, .bool false, .int .i64 0, .int .u32 0] 32)).heap.size = w.heap.size + 1 := by simp
  generalize w.alloc (.cells #[.int .i64 7, .int .i64 0, .int .i64 0, .int .i64 0, .bool false, .int .i64 0, .int .u32 0] 32) = W1 at *
  obtain ⟨g, hg⟩ : ∃ g, w.heap.size = g := ⟨_, rfl⟩
  rw [hg] at KE hW1
  simp only [hg]
  clear hg e0 e1 e2 e3 e4 e5 e6
  have HS := vp2 W1
  rw [hW1] at HS
  have hB := ((Bel.refl W1).alloc (.cells #[.int .i64 0, .int .i64 0, .int .i64 0, .int .i64 0, .bool false, .int .i64 0, .int .u32 5, .int .i64 7, .int .i64 0, .int .i64 0, .int .i64 0, .bool false, .int .i64 0, .int .u32 0] 32)).alloc (.cells #[.int .i64 0, .slice (some ⟨g + 1, 0, none⟩) 2 2] 34)
  clear hW1
  refine (verify_any _ 1 1 vP2 none 0 0 [] _ (Lib.hid HS) (Lib.hid rfl) (Lib.hid (Sl.nil _ _ _)) (Lib.hid rfl) 2 0 (Lib.hid vP2_v) (Lib.hid (fun fn h _ => vP2_s fn h))).mono ?_
  rintro e W2 ⟨rfl, hb⟩
  have HB2 := Lib.hid (HB0.out.trans (hB.trans hb))
  have KE2 := Lib.hid (KE.out.bel (hB.trans hb))
  clear HS hB hb
  have e0 := KE2.out.cell 0 (v := .int .i64 7) rfl
  have e1 := KE2.out.cell 1 (v := .int .i64 0) rfl
  have e2 := KE2.out.cell 2 (v := .int .i64 0) rfl
  have e3 := KE2.out.cell 3 (v := .int .i64 0) rfl
  have e4 := KE2.out.cell 4 (v := .bool false) rfl
  have e5 := KE2.out.cell 5 (v := .int .i64 0) rfl
  have e6 := KE2.out.cell 6 (v := .int .u32 0) rfl
  go_wp2_with fail
  clear e0 e1 e2 e3 e4 e5 e6
  have HS := vp1 W2
  have hB := ((Bel.refl W2).alloc (.cells #[.int .i64 7, .int .i64 0, .int .i64 0, .int .i64 0, .bool false, .int .i64 0, .int .u32 0] 32)).alloc (.cells #[.int .i64 0, .slice (some ⟨W2.heap.size, 0, none⟩) 1 1] 34)
  refine (verify_any _ 1 1 vP1 none 0 0 [] _ (Lib.hid HS) (Lib.hid rfl) (Lib.hid (Sl.nil _ _ _)) (Lib.hid rfl) 0 8 (Lib.hid vP1_v) (Lib.hid (fun fn h _ => vP1_s fn h))).mono ?_
  rintro e W3 ⟨rfl, hb⟩
  have HB3 := Lib.hid (HB2.out.trans (hB.trans hb))
  clear HS hB hb
  go_wp2_with fail
  go_ret
  exact ⟨by first | rfl | simp, HB3.out⟩
end Go.Proofs.Ytebdnobgdimdoaa
set_option linter.unusedVariables false
set_option linter.unusedSimpArgs false
namespace Go.Proofs.Ytebdnobgdimdoaa
open Go.RowKit

/-- A block that holds just these cells. -/
def Blk (W : World) (B : Nat) (t : TypeId) (cs : Array Value) : Prop := W.heap[B]? = some (.cells cs t (0, 0))
theorem Blk.lt {W : World} {B : Nat} {t : TypeId} {cs : Array Value} (h : Blk W B t cs) : B < W.heap.size := (Array.getElem?_eq_some_iff.1 h).1
theorem Blk.cell {W : World} {B : Nat} {t : TypeId} {cs : Array Value} (h : Blk W B t cs) (k : Nat) {v : Value} (e : cs[k]? = some v) : W.cell? ⟨B, k, none⟩ = some v := by simp [World.cell?, show W.heap[B]? = _ from h, e]
theorem Blk.frozen {W : World} {B : Nat} {t : TypeId} {cs : Array Value} (h : Blk W B t cs) (k : Nat) : W.frozen? ⟨B, k, none⟩ = false := by simp [World.frozen?, show W.heap[B]? = _ from h]
theorem Blk.new (W : World) (t : TypeId) (cs : Array Value) : Blk (W.alloc (.cells cs t)) W.heap.size t cs := World.alloc_heap_new W _
theorem Blk.bel {W W' : World} {B : Nat} {t : TypeId} {cs : Array Value} (h : Blk W B t cs) (hb : Bel W W') : Blk W' B t cs := (hb.out.block B h.lt).trans h
theorem Blk.alloc {W : World} {B : Nat} {t : TypeId} {cs : Array Value} (h : Blk W B t cs) (o : Obj) : Blk (W.alloc o) B t cs := h.bel ((Bel.refl W).alloc o)
theorem own_bel {w w' : World} {b : Nat} {e : TypeId} {s : Nat} {v : Value} {n : Nat} {xs : List Value} (h : w.ownsRow b e s v n xs) (hb : Bel w w') : w'.ownsRow b e s v n xs :=
  ⟨h.1, h.2.imp id fun ⟨g, cap, cur, h1, h2, h3, r⟩ => ⟨g, cap, cur, h1, h2, (hb.out.block g (Array.getElem?_eq_some_iff.1 h3).1).trans h3, r⟩⟩
/-- Whatever is no row of elements of a type is as it was. -/
structure K8 (t : TypeId) (W W' : World) : Prop where
  size : W.heap.size ≤ W'.heap.size
  blk : ∀ k u cs, Blk W k u cs → u ≠ t → Blk W' k u cs
theorem K8.refl (t : TypeId) (W : World) : K8 t W W := ⟨Nat.le_refl _, fun _ _ _ h _ => h⟩
theorem K8.trans {t : TypeId} {A B C : World} (h : K8 t A B) (k : K8 t B C) : K8 t A C := ⟨Nat.le_trans h.size k.size, fun i u cs h1 h2 => k.blk i u cs (h.blk i u cs h1 h2) h2⟩
theorem K8.grown {t : TypeId} {W W' : World} {base s : Nat} {v : Value} {n : Nat} {xs : List Value} (h : W.ownsRow base t s v n xs) (hg : W.grownBy W' v.ownBlock) : K8 t W W' :=
  ⟨hg.size, fun k u cs hb hu => (hg.block k hb.lt (fun e => by
    rcases h.2 with ⟨rfl, _⟩ | ⟨g, cap, cur, rfl, h2, h3, _⟩
    · cases e
    · have e2 : k = g := by simpa [Value.ownBlock] using e
      subst e2
      rw [show W.heap[k]? = _ from hb] at h3
      simp only [Option.some.injEq, Obj.cells.injEq] at h3
      exact hu h3.2.1)).trans hb⟩
theorem row_low {W W' : World} {base : Nat} {t : TypeId} {s : Nat} {v : Value} {n : Nat} {xs : List Value} (h : W.ownsRow base t s v n xs) (w0 : World) (hb : w0.heap.size ≤ base) (HB : Bel w0 W) (hg : W.grownBy W' v.ownBlock) : Bel w0 W' :=
  HB.grown hg (fun k hk => Nat.le_trans hb (h.lt k hk).1)
theorem setCell_heap_ne (W : World) {p : Addr} {k : Nat} (v : Value) (h : k ≠ p.block) : (W.setCell p v).heap[k]? = W.heap[k]? := Below.heap_setCell _ _ _ _ h
theorem setCell_size (W : World) (p : Addr) (v : Value) : (W.setCell p v).heap.size = W.heap.size := Array.size_modify
theorem Blk.set {W : World} {B : Nat} {t : TypeId} {cs : Array Value} (h : Blk W B t cs) (k : Nat) (v : Value) : Blk (W.setCell ⟨B, k, none⟩ v) B t (cs.setIfInBounds k v) := by
  show (W.setCell ⟨B, k, none⟩ v).heap[B]? = _
  have hh : W.heap[B]? = some (.cells cs t (0, 0)) := h
  simp [World.setCell, Array.getElem?_modify, hh]
theorem Blk.other {W : World} {B : Nat} {t : TypeId} {cs : Array Value} (h : Blk W B t cs) {p : Addr} (hp : B ≠ p.block) (v : Value) : Blk (W.setCell p v) B t cs := (setCell_heap_ne W v hp).trans h
theorem info_inst : (Try.prog.info? 32).map (fun i => (i.zero, i.size, i.bytes)) = some (some (.agg #[.int .i64 0, .int .i64 0, .int .i64 0, .int .i64 0, .bool false, .int .i64 0, .int .u32 0]), 7, 56) := by kernel_rfl
theorem inst_one (i : InstD) : ∀ u ∈ i.cells, u.oneCell' = true := by
  intro u hu
  simp only [InstD.cells, List.mem_cons, List.not_mem_nil, or_false] at hu
  rcases hu with rfl | rfl | rfl | rfl | rfl | rfl | rfl <;> rfl
theorem cells_new (W : World) (cs : Array Value) (t : TypeId) : ∀ j u, cs.toList[j]? = some u → (W.alloc (.cells cs t)).cell? ((⟨W.heap.size, 0, none⟩ : Addr).add j) = some u := by
  intro j u hu
  rw [Addr.add_lit, Nat.zero_add]
  exact (Blk.new W t cs).cell j (by simpa using hu)
theorem own_form {w : World} {base : Nat} {e : TypeId} {size : Nat} {v : Value} {n : Nat} {xs : List Value} (h : w.ownsRow base e size v (n + 1) xs) : ∃ g c, v = .slice (some ⟨g, 0, none⟩) (n + 1) c := by
  rcases h.2 with ⟨_, h0⟩ | ⟨g, cap, cur, e, _⟩
  · omega
  · exact ⟨g, cap, e⟩
theorem flat7 : ∀ l : List InstD, (l.flatMap InstD.cells).length = l.length * 7
  | [] => rfl
  | i :: l => by
    rw [List.flatMap_cons, List.length_append, flat7 l, List.length_cons]
    simp only [InstD.cells, List.length_cons, List.length_nil]
    omega
theorem flat_getP {α : Type} (f : α → List Value) (k : Nat) (hk : ∀ x, (f x).length = k) : ∀ (zs : List α) (i j : Nat) (hi : i < zs.length), j < k → (zs.flatMap f)[i * k + j]? = (f zs[i])[j]?
  | [], i, j, hi, _ => by simp at hi
  | z :: zs, 0, j, hi, hj => by
    rw [List.flatMap_cons, Nat.zero_mul, Nat.zero_add, List.getElem?_append_left (by rw [hk]; exact hj)]
    rfl
  | z :: zs, i + 1, j, hi, hj => by
    rw [List.flatMap_cons, List.getElem?_append_right (by rw [hk, Nat.succ_mul]; omega), hk]
    have := flat_getP f k hk zs i j (by simpa using hi) hj
    rw [show (i + 1) * k + j - k = i * k + j by rw [Nat.succ_mul]; omega, this]
    rfl
theorem flat_lenP {α : Type} (f : α → List Value) (k : Nat) (hk : ∀ x, (f x).length = k) : ∀ (zs : List α), (zs.flatMap f).length = zs.length * k
  | [] => by simp
  | z :: zs => by
    rw [List.flatMap_cons, List.length_append, hk, flat_lenP f k hk zs, List.length_cons, Nat.succ_mul, Nat.add_comm]
/-- What a row of the call's own tells, cell by cell. -/
theorem own_openP {w : World} {b : Nat} {e : TypeId} {s : Nat} {v : Value} {n : Nat} {xs : List Value} (h : w.ownsRow b e s v n xs) :
    (v = .slice none 0 0 ∧ n = 0) ∨ ∃ g c, v = .slice (some ⟨g, 0, none⟩) n c ∧ b ≤ g ∧ g < w.heap.size ∧ n ≤ c ∧ c ≤ maxLen ∧ (∀ i, w.frozen? ⟨g, i, none⟩ = false) ∧ ∀ j u, xs[j]? = some u → w.cell? ⟨g, j, none⟩ = some u := by
  obtain ⟨h1, h2⟩ := h
  rcases h2 with ⟨rfl, h2⟩ | ⟨g, cap, cur, rfl, hb, hh, hc, hm, hs, ht⟩
  · exact .inl ⟨rfl, h2⟩
  · refine .inr ⟨g, cap, rfl, hb, (Array.getElem?_eq_some_iff.1 hh).1, hc, hm, fun i => by simp [World.frozen?, hh], fun j u hj => ?_⟩
    rw [← ht, List.getElem?_take] at hj
    split at hj
    · rw [Array.getElem?_toList] at hj
      simp [World.cell?, hh, hj]
    · cases hj
/-- Elements of some cells in a row of one's own, as a slice. -/
theorem sl_of_rows {S T : Type} {R : World → List Value → T → Prop} {sz : Nat} (f : S → List Value) (hf : ∀ z, (f z).length = sz) (gg : S → T) {W : World} {base : Nat} {e : TypeId} {v : Value} {zs : List S} (h : W.ownsRow base e sz v zs.length (zs.flatMap f)) (hR : ∀ z ∈ zs, R W (f z) (gg z)) :
    ∃ A c, v = .slice A zs.length c ∧ Sl R sz W A c (zs.map gg) := by
  rcases own_openP h with ⟨rfl, h0⟩ | ⟨g, c, rfl, hg1, hg2, hc1, hc2, hfz, hcl⟩
  · have e : zs = [] := List.eq_nil_of_length_eq_zero h0
    subst e
    exact ⟨none, 0, rfl, Sl.nil _ _ _⟩
  · refine ⟨some ⟨g, 0, none⟩, c, rfl, by rw [List.length_map]; exact hc1, hc2, fun i hi => ?_⟩
    rw [List.length_map] at hi
    refine ⟨g, 0, f zs[i], rfl, hf _, by rw [List.getElem_map]; exact hR _ (List.getElem_mem hi), fun j u hu => ?_⟩
    have hj : j < sz := by rw [← hf zs[i]]; exact (List.getElem?_eq_some_iff.1 hu).1
    rw [Nat.zero_add]
    exact hcl _ _ (by rw [flat_getP f sz hf zs i j hi hj]; exact hu)
theorem own_slice {W : World} {base : Nat} {e : TypeId} {s : Nat} {v : Value} {n : Nat} {xs : List Value} (h : W.ownsRow base e s v n xs) : ∃ A c, v = .slice A n c := by
  rcases h.2 with ⟨rfl, rfl⟩ | ⟨g, cap, cur, rfl, _⟩
  · exact ⟨none, 0, rfl⟩
  · exact ⟨_, cap, rfl⟩
/-- A row of one kind is left by what is done to a row of another. -/
theorem own_grown {X Y : World} {b1 b2 s1 s2 n1 n2 : Nat} {t1 t2 : TypeId} {v1 v2 : Value} {xs1 xs2 : List Value} (h1 : X.ownsRow b1 t1 s1 v1 n1 xs1) (h2 : X.ownsRow b2 t2 s2 v2 n2 xs2) (ht : t1 ≠ t2) (hg : X.grownBy Y v2.ownBlock) : Y.ownsRow b1 t1 s1 v1 n1 xs1 :=
  ⟨h1.1, h1.2.imp id fun ⟨g, cap, cur, e1, e2, e3, r⟩ => ⟨g, cap, cur, e1, e2, (hg.block g (Array.getElem?_eq_some_iff.1 e3).1 (fun e => by
    rcases h2.2 with ⟨rfl, _⟩ | ⟨g', cap', cur', rfl, _, e4, _⟩
    · cases e
    · have : g = g' := by simpa [Value.ownBlock] using e
      subst this
      rw [e3] at e4
      simp only [Option.some.injEq, Obj.cells.injEq] at e4
      exact ht e4.2.1)).trans e3, r⟩⟩
theorem own_set {X : World} {b s n : Nat} {t : TypeId} {v : Value} {xs : List Value} (h : X.ownsRow b t s v n xs) {p : Addr} (hp : p.block < b) (u : Value) : (X.setCell p u).ownsRow b t s v n xs :=
  ⟨h.1, h.2.imp id fun ⟨g, cap, cur, e1, e2, e3, r⟩ => ⟨g, cap, cur, e1, e2, (setCell_heap_ne X u (by omega)).trans e3, r⟩⟩
def fnc (z : FnD × Value) : List Value := [.int .i64 z.1.args, z.2]
theorem info_fn : (Try.prog.info? 34).map (fun i => (i.zero, i.size, i.bytes)) = some (some (.agg #[.int .i64 0, .slice none 0 0]), 2, 32) := by kernel_rfl
theorem blk_grown {X Y : World} {k b s n : Nat} {u t : TypeId} {cs : Array Value} {v : Value} {xs : List Value} (h : Blk X k u cs) (ho : X.ownsRow b t s v n xs) (hu : u ≠ t) (hg : X.grownBy Y v.ownBlock) : Blk Y k u cs := (K8.grown ho hg).blk k u cs h hu
theorem step_append_run {P : Program} {w : World} {ops : Array Oper} {o : Oper} {a : Act} {K : Act → World → Prop} {Q : Exit → Act → World → Prop} {E : Prop} (hgd : o.guard = none) (s x : Operand) (t : TypeId)
    (ho : o.op = .call { callee := .builtin .append, args := #[s, x], argTypes := #[t, t] })
    (vs vx : Value) (hs : a.eval s = vs) (hx : a.eval x = vx) (R : Value → World → Prop) (hr : ∃ v' w', (Builtin.append_ #[t, t] o.type #[vs, vx]).run P w = .ok v' w' ∧ R v' w')
    (h : ∀ v' w', R v' w' → K (a.put o.dst v') w') :
    if Region.wanted o (yielded ops a.tmps) = true then Oper.wp P o a w K Q else E := by
  have hw : Region.wanted o (yielded ops a.tmps) = true := by simp [Region.wanted, hgd]
  rw [if_pos hw]
  obtain ⟨v', w', hrun, hR⟩ := hr
  unfold Oper.wp
  simp [execOp, ho, resolve, invoke, builtin, hs, hx, hrun, Result.andThen]
  exact h v' w' hR
/-- A cell that holds a value, and may be written. -/
structure Fz (B : Nat) (v : Value) (w : World) : Prop where
  c : w.cell? ⟨B, 0, none⟩ = some v
  f : w.frozen? ⟨B, 0, none⟩ = false
theorem Fz.bel {B : Nat} {v : Value} {w w' : World} (h : Fz B v w) (hb : Bel w w') : Fz B v w' := ⟨hb.cell h.c, (hb.frozen h.c).trans h.f⟩
theorem fn_one (a : Int) (A : Option Addr) (m c : Nat) : ∀ u ∈ [Value.int .i64 a, .slice A m c], u.oneCell' = true := by
  intro u hu
  simp only [List.mem_cons, List.not_mem_nil, or_false] at hu
  rcases hu with rfl | rfl <;> rfl
/-- 'append' of a function. -/
theorem app_fn (ty : TypeId) {X : World} {base n : Nat} {v : Value} {xs : List Value} (ho : X.ownsRow base 34 2 v n xs) (hn : n ≤ 4096) (g : Nat) {a : Int} {A : Option Addr} {m c : Nat} (hg : g = g) (hnews : ∀ j u, [Value.int .i64 a, .slice A m c][j]? = some u → X.cell? ((⟨g, 0, none⟩ : Addr).add j) = some u) (hb : base ≤ X.heap.size) :
    ∃ v' w', (Builtin.append_ #[22, 22] ty #[v, .slice (some ⟨g, 0, none⟩) 1 1]).run Try.prog X = .ok v' w' ∧ w'.ownsRow base 34 2 v' (n + 1) (xs ++ [Value.int .i64 a, .slice A m c]) ∧ X.grownBy w' v.ownBlock ∧ ∃ g' c', v' = .slice (some ⟨g', 0, none⟩) (n + 1) c' := by
  obtain ⟨i0, hi, hzz⟩ := Option.map_eq_some_iff.1 info_fn
  simp only [Prod.mk.injEq] at hzz
  obtain ⟨hz0, hz1, hz2⟩ := hzz
  obtain ⟨v', w', hr, h2, h3, _, h5⟩ := run_append_own_at (P := Try.prog) X base _ ty 34 i0 _ 2 32 Try.underlying22 hi hz0 hz1 hz2 rfl (by decide) v n xs ho ⟨g, 0, none⟩ 1 1 [Value.int .i64 a, .slice A m c] rfl hnews (fn_one a A m c) (by simp only [maxLen]; omega) (by omega) hb
  exact ⟨v', w', hr, h2, h3, own_form h2⟩
theorem insts_one (l : List InstD) : ∀ u ∈ l.flatMap InstD.cells, u.oneCell' = true := by
  intro u hu
  obtain ⟨x, _, hx⟩ := List.mem_flatMap.1 hu
  exact inst_one x u hx
/-- The cells of a slice of instructions, in one row. -/
theorem insts_row {w : World} {b off c : Nat} {l : List InstD} (h : Sl InstR 7 w (some ⟨b, off, none⟩) c l) : ∀ j u, (l.flatMap InstD.cells)[j]? = some u → w.cell? ((⟨b, off, none⟩ : Addr).add j) = some u := by
  intro j u hu
  have hlen : ∀ x : InstD, (InstD.cells x).length = 7 := fun _ => rfl
  have hj : j < l.length * 7 := by rw [← flat_lenP InstD.cells 7 hlen l]; exact (List.getElem?_eq_some_iff.1 hu).1
  have hi : j / 7 < l.length := by omega
  have e := flat_getP InstD.cells 7 hlen l (j / 7) (j % 7) hi (Nat.mod_lt _ (by decide))
  rw [show j / 7 * 7 + j % 7 = j by omega, hu] at e
  rw [Addr.add_lit]
  obtain ⟨b', off', cs, e', -, ⟨rfl, -⟩, hc⟩ := h.get (j / 7) hi
  simp at e'; obtain ⟨rfl, rfl⟩ := e'
  have := hc (j % 7) u e.symm
  rwa [show off + j / 7 * 7 + j % 7 = off + j by omega] at this
theorem own_not {X : World} {b s n : Nat} {t t2 : TypeId} {v : Value} {xs : List Value} (h : X.ownsRow b t s v n xs) {D : Nat} {cur : Array Value} (hD : X.heap[D]? = some (.cells cur t2 (0, 0))) (ht : t ≠ t2) : v.ownBlock ≠ some D := by
  intro e
  rcases h.2 with ⟨rfl, _⟩ | ⟨g, cap, cur', rfl, _, hh, _⟩
  · cases e
  · have : g = D := by simpa [Value.ownBlock] using e
    subst this
    rw [hh] at hD
    simp only [Option.some.injEq, Obj.cells.injEq] at hD
    exact ht hD.2.1
/-- 'append' of instructions onto nothing. -/
theorem app_insts (ty : TypeId) {X : World} {A : Option Addr} {m c base : Nat} {l : List InstD} (h : Sl InstR 7 X A c l) (hm : l.length = m) (hx : m ≤ 4096) (hb : base ≤ X.heap.size) :
    ∃ v' w', (Builtin.append_ #[29, 29] ty #[.slice none 0 0, .slice A m c]).run Try.prog X = .ok v' w' ∧ w'.ownsRow base 32 7 v' m (l.flatMap InstD.cells) ∧ Bel X w' ∧ (v'.ownBlock = none ∨ v'.ownBlock = some X.heap.size) ∧ ∃ A' c', v' = .slice A' m c' := by
  obtain ⟨i0, hi, hzz⟩ := Option.map_eq_some_iff.1 info_inst
  simp only [Prod.mk.injEq] at hzz
  obtain ⟨hz0, hz1, hz2⟩ := hzz
  have ho : X.ownsRow base 32 7 (.slice none 0 0) 0 [] := ⟨by simp, .inl ⟨rfl, rfl⟩⟩
  cases A with
  | none =>
    have h0 : m = 0 := by
      rcases Nat.eq_zero_or_pos m with h0 | h0
      · exact h0
      · obtain ⟨b, o, e⟩ := h.addr (by rw [hm]; exact h0)
        cases e
    subst h0
    have hl : l = [] := List.eq_nil_of_length_eq_zero hm
    subst hl
    refine ⟨.slice none 0 0, X, ?_, ho, Bel.refl _, .inl rfl, none, 0, rfl⟩
    simp [Builtin.append_, run_underlying Try.underlying29, sizeOf, typeInfo, hi, Builtin.lenOf, Builtin.firstCells]
  | some a =>
    have hcells : ∀ j u, (l.flatMap InstD.cells)[j]? = some u → X.cell? (a.add j) = some u := by
      intro j u hu
      by_cases h0 : 0 < l.length
      · obtain ⟨b, o, e⟩ := h.addr h0
        cases e
        exact insts_row h j u hu
      · have hl : l = [] := List.eq_nil_of_length_eq_zero (by omega)
        subst hl
        simp at hu
    obtain ⟨v', w', hr, h2, h3, _, h5⟩ := run_append_own_at (P := Try.prog) X base _ ty 32 i0 _ 7 56 Try.underlying29 hi hz0 hz1 hz2 rfl (by decide) (.slice none 0 0) 0 [] ho a m c (l.flatMap InstD.cells) (by rw [flat7, hm]) hcells (insts_one l) (by simp only [maxLen]; omega) (by omega) hb
    rw [Nat.zero_add, List.nil_append] at h2
    exact ⟨v', w', hr, h2, (Bel.refl X).grown h3 (fun k hk => by simp [Value.ownBlock] at hk), h5, own_slice h2⟩
/-- The codes lie in blocks of their own. -/
def Apart (zs : List (FnD × Value)) : Prop := zs.Pairwise fun a b => a.2.ownBlock ≠ none → a.2.ownBlock ≠ b.2.ownBlock
theorem own_ltN {X : World} {b s n : Nat} {t : TypeId} {v : Value} {xs : List Value} (h : X.ownsRow b t s v n xs) {k : Nat} (hk : v.ownBlock = some k) : k < X.heap.size := by
  rcases h.2 with ⟨rfl, _⟩ | ⟨g, cap, cur, rfl, _, hh, _⟩
  · simp [Value.ownBlock] at hk
  · have : g = k := by simpa [Value.ownBlock] using hk
    subst this
    exact (Array.getElem?_eq_some_iff.1 hh).1
theorem Apart.push {zs : List (FnD × Value)} {z : FnD × Value} {X : World} {base : Nat} (h : Apart zs) (hc : ∀ y ∈ zs, X.ownsRow base 32 7 y.2 y.1.code.length (y.1.code.flatMap InstD.cells)) (hz : z.2.ownBlock = none ∨ z.2.ownBlock = some X.heap.size) : Apart (zs ++ [z]) := by
  unfold Apart at h ⊢
  rw [List.pairwise_append]
  refine ⟨h, List.pairwise_singleton _ _, fun a ha b hb hne e => ?_⟩
  obtain rfl := List.mem_singleton.1 hb
  rcases hz with hz | hz
  · exact hne (e.trans hz)
  · have := own_ltN (hc a ha) (e.trans hz)
    omega
/-- What a round of Own's loop knows. -/
structure OwnI (w : World) (g R Pb base : Nat) (pv : Value) (zs : List (FnD × Value)) (v : Value) (X : World) : Prop where
  bel : Bel w X
  pb : Blk X g 24 #[pv]
  res : Blk X R 24 #[.slice none 0 0]
  box : Blk X Pb 24 #[v]
  own : X.ownsRow base 34 2 v zs.length (zs.flatMap fnc)
  codes : ∀ z ∈ zs, X.ownsRow base 32 7 z.2 z.1.code.length (z.1.code.flatMap InstD.cells)
  apart : Apart zs
theorem OwnI.mono {w : World} {g R Pb base : Nat} {pv : Value} {zs : List (FnD × Value)} {v : Value} {X Y : World} (h : OwnI w g R Pb base pv zs v X) (hb : Bel X Y) : OwnI w g R Pb base pv zs v Y :=
  ⟨h.bel.trans hb, h.pb.bel hb, h.res.bel hb, h.box.bel hb, own_bel h.own hb, fun z hz => own_bel (h.codes z hz) hb, h.apart⟩
theorem OwnI.push {w : World} {g R Pb base : Nat} {pv : Value} {zs : List (FnD × Value)} {v v' : Value} {X Y : World} {z : FnD × Value} {n : Nat} (h : OwnI w g R Pb base pv zs v X) (hP : Pb < base) (hgP : g ≠ Pb) (hRP : R ≠ Pb) (hwP : w.heap.size ≤ Pb) (hn : n = zs.length + 1) (hz : X.ownsRow base 32 7 z.2 z.1.code.length (z.1.code.flatMap InstD.cells)) (ha : Apart (zs ++ [z])) (ho : Y.ownsRow base 34 2 v' n (zs.flatMap fnc ++ fnc z)) (hg : X.grownBy Y v.ownBlock) : OwnI w g R Pb base pv (zs ++ [z]) v' (Y.setCell ⟨Pb, 0, none⟩ v') := by
  subst hn
  refine ⟨(row_low h.own w (by omega) h.bel hg).setCell (p := ⟨Pb, 0, none⟩) hwP v', (blk_grown h.pb h.own (by decide) hg).other (p := ⟨Pb, 0, none⟩) hgP v', (blk_grown h.res h.own (by decide) hg).other (p := ⟨Pb, 0, none⟩) hRP v', Blk.set (cs := #[v]) (blk_grown h.box h.own (by decide) hg) 0 v', ?_, ?_, ha⟩
  · rw [List.length_append, List.flatMap_append, List.flatMap_singleton]
    exact own_set ho hP v'
  · intro y hy
    rcases List.mem_append.1 hy with hy | hy
    · exact own_set (own_grown (h.codes y hy) h.own (by decide) hg) hP v'
    · obtain rfl := List.mem_singleton.1 hy
      exact own_set (own_grown hz h.own (by decide) hg) hP v'
/-- What Own tells. -/
structure OwnR (w : World) (zs : List (FnD × Value)) (v : Value) (X : World) : Prop where
  bel : Bel w X
  own : X.ownsRow w.heap.size 34 2 v zs.length (zs.flatMap fnc)
  codes : ∀ z ∈ zs, X.ownsRow w.heap.size 32 7 z.2 z.1.code.length (z.1.code.flatMap InstD.cells)
  apart : Apart zs
theorem OwnI.done {w : World} {g R Pb base : Nat} {pv : Value} {zs : List (FnD × Value)} {v : Value} {X : World} (h : OwnI w g R Pb base pv zs v X) (hb : w.heap.size ≤ base) (hR : R < base) (hwR : w.heap.size ≤ R) (u : Value) : OwnR w zs v (X.setCell ⟨R, 0, none⟩ u) :=
  ⟨h.bel.setCell (p := ⟨R, 0, none⟩) hwR u, own_mono (own_set h.own hR u) hb, fun z hz => own_mono (own_set (h.codes z hz) hR u) hb, h.apart⟩
/-- What the region reads. -/
structure OwnS (w : World) (g Pb : Nat) (pv v : Value) (X : World) : Prop where
  bel : Bel w X
  pb : X.cell? ⟨g, 0, none⟩ = some pv
  fz : Fz Pb v X
theorem OwnI.s {w : World} {g R Pb base : Nat} {pv : Value} {zs : List (FnD × Value)} {v : Value} {X : World} (h : OwnI w g R Pb base pv zs v X) : OwnS w g Pb pv v X := ⟨h.bel, h.pb.cell 0 rfl, h.box.cell 0 rfl, h.box.frozen 0⟩
theorem OwnS.mono {w : World} {g Pb : Nat} {pv v : Value} {X Y : World} (h : OwnS w g Pb pv v X) (hb : Bel X Y) : OwnS w g Pb pv v Y := ⟨h.bel.trans hb, hb.cell h.pb, h.fz.bel hb⟩
set_option maxHeartbeats 8000000 in
set_option maxRecDepth 100000 in
theorem own_any (A : Option Addr) (c n : Nat) (L : List FnD) (w : World) (hL : Sl FnR 2 w A c L) (hn : Hid (L.length = n)) (hs : n ≤ 4000) (hsm : Hid (∀ f ∈ L, f.code.length ≤ 4000)) :
    Calls Try.prog 8 #[.agg #[.slice A n c]] w fun e w' => ∃ zs v, e = .returned (.agg #[v]) ∧ zs.map Prod.fst = L ∧ OwnR w zs v w' := by
  have HL := Lib.hid hL
  have HI0 : Hid (OwnI w w.heap.size (w.heap.size + 1) (w.heap.size + 1 + 1) (w.heap.size + 1 + 1 + 1) (.slice A n c) [] (.slice none 0 0) (((w.alloc (.cells #[.slice A n c] 24)).alloc (.cells #[.slice none 0 0] 24)).alloc (.cells #[.slice none 0 0] 24))) := Lib.hid (by
    have k1 := Blk.new (w.alloc (.cells #[.slice A n c] 24)) 24 #[.slice none 0 0]
    have k2 := Blk.new ((w.alloc (.cells #[.slice A n c] 24)).alloc (.cells #[.slice none 0 0] 24)) 24 #[.slice none 0 0]
    rw [World.size_alloc] at k1
    rw [World.size_alloc, World.size_alloc] at k2
    exact ⟨(((Bel.refl w).alloc _).alloc _).alloc _, ((Blk.new w 24 #[.slice A n c]).alloc _).alloc _, k1.alloc _, k2, ⟨by simp, .inl ⟨rfl, rfl⟩⟩, fun z hz => (by cases hz), List.Pairwise.nil⟩)
  have hbw0 : w.heap.size + 1 + 1 + 1 ≤ (((w.alloc (.cells #[.slice A n c] 24)).alloc (.cells #[.slice none 0 0] 24)).alloc (.cells #[.slice none 0 0] 24)).heap.size := by simp
  clear hL
  go_enter Try.func8, Try.ntmps8
  go_wp2_with fail
  generalize ((w.alloc (.cells #[.slice A n c] 24)).alloc (.cells #[.slice none 0 0] 24)).alloc (.cells #[.slice none 0 0] 24) = W1 at *
  obtain ⟨g, hg⟩ : ∃ g, w.heap.size = g := ⟨_, rfl⟩
  obtain ⟨R, hR⟩ : ∃ R, w.heap.size + 1 = R := ⟨_, rfl⟩
  obtain ⟨Pb, hPb⟩ : ∃ Pb, w.heap.size + 1 + 1 = Pb := ⟨_, rfl⟩
  have hgR : g + 1 = R := by omega
  have hRP : R + 1 = Pb := by omega
  have hwP : w.heap.size ≤ Pb := by omega
  have hwR : w.heap.size ≤ R := by omega
  rw [hPb] at HI0 hbw0
  rw [hR] at HI0
  simp only [hPb]
  simp only [hR]
  rw [hg] at HI0
  simp only [hg]
  clear hPb hR
  have hwg : w.heap.size ≤ g := by omega
  clear hg
  have hPb : Pb < Pb + 1 := by omega
  go_loopw [4] (fun iv wr => ∃ (i : Nat) (zs : List (FnD × Value)) (v : Value), iv = .int .i64 i ∧ i ≤ n ∧ zs.map Prod.fst = L.take i ∧ OwnI w g R Pb (Pb + 1) (.slice A n c) zs v wr ∧ Pb + 1 ≤ wr.heap.size) (fun iv _ => n - (intOf iv).toNat)
  case atStart => exact ⟨0, [], _, rfl, by omega, by simp, HI0.out, hbw0⟩
  case round =>
    clear HI0 hbw0
    obtain ⟨i, zs, v, rfl, hin, hzs, hi, hbw⟩ := hrel
    have HII := Lib.hid hi
    have HZS := Lib.hid hzs
    have q1 := hi.pb.cell 0 (v := .slice A n c) rfl
    have HZ : Hid (zs.length = i) := Lib.hid (by
      have := congrArg List.length hzs
      rw [List.length_map, List.length_take, hn.out] at this
      omega)
    clear hi hzs
    by_cases hend : i = n
    · subst hend
      have p0 := HII.out.box.cell 0 (v := v) rfl
      have r0 := HII.out.res.cell 0 (v := .slice none 0 0) rfl
      have f0 := HII.out.res.frozen 0
      obtain ⟨AV, cV, rfl⟩ := own_slice HII.out.own
      have E1 : Hid ((wr.setCell ⟨R, 0, none⟩ (.slice AV zs.length cV)).cell? ⟨R, 0, none⟩ = some (.slice AV zs.length cV)) := Lib.hid ((Blk.set (cs := #[.slice none 0 0]) HII.out.res 0 (.slice AV zs.length cV)).cell 0 rfl)
      have HD := Lib.hid (HII.out.done (by omega) (by omega) hwR (.slice AV zs.length cV))
      have HE : Hid (zs.map Prod.fst = L) := Lib.hid (by rw [HZS.out, List.take_of_length_le (by rw [hn.out]; exact Nat.le_refl _)])
      go_wp2_with fail
      refine bodyPost_ret (v := .agg #[.slice AV zs.length cV]) ?_ rfl ⟨zs, _, rfl, HE.out, HD.out⟩
      have h1 := E1.out
      simp [results, Try.results8, go_sem, h1]
    · have hi1 : i < n := by omega
      have hiL : i < L.length := by rw [hn.out]; exact hi1
      have hi2 : (i : Int) < n := by omega
      have hi3 : ¬ (i : Int) < 0 := by omega
      have hi4 : ¬ (n : Int) ≤ i := by omega
      have ei : IntKind.i64.wrap ((i : Int) + 1) = ((i + 1 : Nat) : Int) := by rw [wrap_i64 (by omega) (by omega)]; omega
      obtain ⟨b, o, rfl⟩ := HL.out.addr (by omega)
      obtain ⟨Ak, ck, d0, d1, hsk⟩ := fn_cells HL.out i hiL
      obtain ⟨lk, HLK⟩ : ∃ lk, Hid ((L[i]).code.length = lk) := ⟨_, Lib.hid rfl⟩
      have hlk : lk ≤ 4096 := by
        have := hsm.out _ (List.getElem_mem hiL)
        rw [HLK.out] at this
        omega
      rw [HLK.out] at d1
      have HSK := Lib.hid hsk
      have HTK : Hid ((zs ++ [(L[i], Value.slice none 0 0)]).map Prod.fst = L.take (i + 1)) := Lib.hid (by rw [List.map_append, HZS.out, List.map_singleton, List.take_succ_eq_append_getElem hiL])
      clear hsk hend
      go_wp2_with fail
      have HIX := Lib.hid (HII.out.mono ((Bel.refl wr).drew))
      have SD := HIX.out.s
      have hbX : Pb + 1 ≤ wr.drew.heap.size := Nat.le_trans hbw ((Bel.refl wr).drew).size
      have P0 := fun (w' : World) (h : OwnS w g Pb (.slice (some ⟨b, o, none⟩) n c) v w') => h.fz.c
      have P1 := fun (w' : World) (h : OwnS w g Pb (.slice (some ⟨b, o, none⟩) n c) v w') => h.fz.f
      have P2 := fun (w' : World) (h : OwnS w g Pb (.slice (some ⟨b, o, none⟩) n c) v w') => h.pb
      have D0 := fun (w' : World) (h : OwnS w g Pb (.slice (some ⟨b, o, none⟩) n c) v w') => h.bel.cell d0
      have D1 := fun (w' : World) (h : OwnS w g Pb (.slice (some ⟨b, o, none⟩) n c) v w') => h.bel.cell d1
      clear d0 d1
      refine wp_region_T (fun w' => OwnS w g Pb (.slice (some ⟨b, o, none⟩) n c) v w') (fun j => j == 19) (by kernel_rfl) ?_
      refine wpAnyU_take (i := 0) (v := ?v0) rfl (by kernel_rfl) (by kernel_rfl) (by kernel_rfl) (by kernel_rfl) (fun _ _ _ h => h) ?hy0 SD ?rest0
      case hy0 => first | (refine Or.inl ⟨by rfl, ?_⟩; (intro w' hSw; go_simp) <;> with_reducible rfl) | (refine Or.inr ⟨by rfl, ?_⟩; with_reducible rfl)
      try simp only [List.getElem_toArray, List.getElem_cons_zero, List.getElem_cons_succ, Act.put, List.setIfInBounds_toArray, List.set_cons_zero, List.set_cons_succ]
      refine wpAnyU_take (i := 1) (v := ?v1) rfl (by kernel_rfl) (by kernel_rfl) (by kernel_rfl) (by kernel_rfl) (fun _ _ _ h => h) ?hy1 SD ?rest1
      case hy1 => first | (refine Or.inl ⟨by rfl, ?_⟩; (intro w' hSw; go_simp) <;> with_reducible rfl) | (refine Or.inr ⟨by rfl, ?_⟩; with_reducible rfl)
      try simp only [List.getElem_toArray, List.getElem_cons_zero, List.getElem_cons_succ, Act.put, List.setIfInBounds_toArray, List.set_cons_zero, List.set_cons_succ]
      refine wpAnyU_take (i := 2) (v := ?v2) rfl (by kernel_rfl) (by kernel_rfl) (by kernel_rfl) (by kernel_rfl) (fun _ _ _ h => h) ?hy2 SD ?rest2
      case hy2 => first | (refine Or.inl ⟨by rfl, ?_⟩; (intro w' hSw; go_simp) <;> with_reducible rfl) | (refine Or.inr ⟨by rfl, ?_⟩; with_reducible rfl)
      try simp only [List.getElem_toArray, List.getElem_cons_zero, List.getElem_cons_succ, Act.put, List.setIfInBounds_toArray, List.set_cons_zero, List.set_cons_succ]
      refine wpAnyU_take (i := 3) (v := ?v3) rfl (by kernel_rfl) (by kernel_rfl) (by kernel_rfl) (by kernel_rfl) (fun _ _ _ h => h) ?hy3 SD ?rest3
      case hy3 => first | (refine Or.inl ⟨by rfl, ?_⟩; (intro w' hSw; go_simp) <;> with_reducible rfl) | (refine Or.inr ⟨by rfl, ?_⟩; with_reducible rfl)
      try simp only [List.getElem_toArray, List.getElem_cons_zero, List.getElem_cons_succ, Act.put, List.setIfInBounds_toArray, List.set_cons_zero, List.set_cons_succ]
      refine wpAnyU_take (i := 4) (v := ?v4) rfl (by kernel_rfl) (by kernel_rfl) (by kernel_rfl) (by kernel_rfl) (fun _ _ _ h => h) ?hy4 SD ?rest4
      case hy4 => first | (refine Or.inl ⟨by rfl, ?_⟩; (intro w' hSw; go_simp) <;> with_reducible rfl) | (refine Or.inr ⟨by rfl, ?_⟩; with_reducible rfl)
      try simp only [List.getElem_toArray, List.getElem_cons_zero, List.getElem_cons_succ, Act.put, List.setIfInBounds_toArray, List.set_cons_zero, List.set_cons_succ]
      refine wpAnyU_take (i := 5) (v := ?v5) rfl (by kernel_rfl) (by kernel_rfl) (by kernel_rfl) (by kernel_rfl) (fun _ _ _ h => h) ?hy5 SD ?rest5
      case hy5 => first | (refine Or.inl ⟨by rfl, ?_⟩; (intro w' hSw; go_simp) <;> with_reducible rfl) | (refine Or.inr ⟨by rfl, ?_⟩; with_reducible rfl)
      try simp only [List.getElem_toArray, List.getElem_cons_zero, List.getElem_cons_succ, Act.put, List.setIfInBounds_toArray, List.set_cons_zero, List.set_cons_succ]
      refine wpAnyU_take (i := 6) (v := ?v6) rfl (by kernel_rfl) (by kernel_rfl) (by kernel_rfl) (by kernel_rfl) (fun _ _ _ h => h) ?hy6 SD ?rest6
      case hy6 => first | (refine Or.inl ⟨by rfl, ?_⟩; (intro w' hSw; go_simp) <;> with_reducible rfl) | (refine Or.inr ⟨by rfl, ?_⟩; with_reducible rfl)
      try simp only [List.getElem_toArray, List.getElem_cons_zero, List.getElem_cons_succ, Act.put, List.setIfInBounds_toArray, List.set_cons_zero, List.set_cons_succ]
      refine wpAnyU_take (i := 7) (v := ?v7) rfl (by kernel_rfl) (by kernel_rfl) (by kernel_rfl) (by kernel_rfl) (fun _ _ _ h => h) ?hy7 SD ?rest7
      case hy7 => first | (refine Or.inl ⟨by rfl, ?_⟩; (intro w' hSw; go_simp) <;> with_reducible rfl) | (refine Or.inr ⟨by rfl, ?_⟩; with_reducible rfl)
      try simp only [List.getElem_toArray, List.getElem_cons_zero, List.getElem_cons_succ, Act.put, List.setIfInBounds_toArray, List.set_cons_zero, List.set_cons_succ]
      refine wpAnyU_take (i := 8) (v := ?v8) rfl (by kernel_rfl) (by kernel_rfl) (by kernel_rfl) (by kernel_rfl) (fun _ _ _ h => h) ?hy8 SD ?rest8
      case hy8 => first | (refine Or.inl ⟨by rfl, ?_⟩; (intro w' hSw; go_simp) <;> with_reducible rfl) | (refine Or.inr ⟨by rfl, ?_⟩; with_reducible rfl)
      try simp only [List.getElem_toArray, List.getElem_cons_zero, List.getElem_cons_succ, Act.put, List.setIfInBounds_toArray, List.set_cons_zero, List.set_cons_succ]
      refine wpAnyU_take (i := 9) (v := ?v9) rfl (by kernel_rfl) (by kernel_rfl) (by kernel_rfl) (by kernel_rfl) (fun _ _ _ h => h) ?hy9 SD ?rest9
      case hy9 => first | (refine Or.inl ⟨by rfl, ?_⟩; (intro w' hSw; go_simp) <;> with_reducible rfl) | (refine Or.inr ⟨by rfl, ?_⟩; with_reducible rfl)
      try simp only [List.getElem_toArray, List.getElem_cons_zero, List.getElem_cons_succ, Act.put, List.setIfInBounds_toArray, List.set_cons_zero, List.set_cons_succ]
      refine wpAnyU_take (i := 10) (v := ?v10) rfl (by kernel_rfl) (by kernel_rfl) (by kernel_rfl) (by kernel_rfl) (fun _ _ _ h => h) ?hy10 SD ?rest10
      case hy10 => first | (refine Or.inl ⟨by rfl, ?_⟩; (intro w' hSw; go_simp) <;> with_reducible rfl) | (refine Or.inr ⟨by rfl, ?_⟩; with_reducible rfl)
      try simp only [List.getElem_toArray, List.getElem_cons_zero, List.getElem_cons_succ, Act.put, List.setIfInBounds_toArray, List.set_cons_zero, List.set_cons_succ]
      refine wpAnyU_take (i := 11) (v := ?v11) rfl (by kernel_rfl) (by kernel_rfl) (by kernel_rfl) (by kernel_rfl) (fun _ _ _ h => h) ?hy11 SD ?rest11
      case hy11 => first | (refine Or.inl ⟨by rfl, ?_⟩; (intro w' hSw; go_simp) <;> with_reducible rfl) | (refine Or.inr ⟨by rfl, ?_⟩; with_reducible rfl)
      try simp only [List.getElem_toArray, List.getElem_cons_zero, List.getElem_cons_succ, Act.put, List.setIfInBounds_toArray, List.set_cons_zero, List.set_cons_succ]
      refine wpAnyU_take (i := 12) (v := ?v12) rfl (by kernel_rfl) (by kernel_rfl) (by kernel_rfl) (by kernel_rfl) (fun _ _ _ h => h) ?hy12 SD ?rest12
      case hy12 => first | (refine Or.inl ⟨by rfl, ?_⟩; (intro w' hSw; go_simp) <;> with_reducible rfl) | (refine Or.inr ⟨by rfl, ?_⟩; with_reducible rfl)
      try simp only [List.getElem_toArray, List.getElem_cons_zero, List.getElem_cons_succ, Act.put, List.setIfInBounds_toArray, List.set_cons_zero, List.set_cons_succ]
      refine wpAnyU_take (i := 13) (v := ?v13) rfl (by kernel_rfl) (by kernel_rfl) (by kernel_rfl) (by kernel_rfl) (fun _ _ _ h => h) ?hy13 SD ?rest13
      case hy13 => first | (refine Or.inl ⟨by rfl, ?_⟩; (intro w' hSw; go_simp) <;> with_reducible rfl) | (refine Or.inr ⟨by rfl, ?_⟩; with_reducible rfl)
      try simp only [List.getElem_toArray, List.getElem_cons_zero, List.getElem_cons_succ, Act.put, List.setIfInBounds_toArray, List.set_cons_zero, List.set_cons_succ]
      refine wpAnyT_one (i := 14) (by kernel_rfl) rfl (fun K hK => ?_)
      refine step_append_run (by rfl) _ _ _ (by rfl) (.slice none 0 0) (.slice Ak lk ck) (by rfl) (by rfl) _ (app_insts (base := Pb + 1) _ (HSK.out.mono InstR.mono HIX.out.bel) HLK.out hlk hbX) ?_
      rintro v5 w5 ⟨ho5, hb5, hn5, A5, c5, hv5⟩
      subst hv5
      have HI5 := Lib.hid (HIX.out.mono hb5)
      have S5 := HI5.out.s
      have HAP := Lib.hid (HIX.out.apart.push (z := (L[i], .slice A5 lk c5)) HIX.out.codes hn5)
      have HO5 := Lib.hid ho5
      have hb5w := Nat.le_trans hbX hb5.size
      clear ho5 hb5 hn5
      refine hK.out _ _ (fun _ => S5) ?_
      clear hK K
      try simp only [List.getElem_toArray, List.getElem_cons_zero, List.getElem_cons_succ, Act.put, List.setIfInBounds_toArray, List.set_cons_zero, List.set_cons_succ]
      refine wpAnyU_take (i := 15) (v := ?v15) rfl (by kernel_rfl) (by kernel_rfl) (by kernel_rfl) (by kernel_rfl) (fun _ _ _ h => h) ?hy15 S5 ?rest15
      case hy15 => first | (refine Or.inl ⟨by rfl, ?_⟩; (intro w' hSw; go_simp) <;> with_reducible rfl) | (refine Or.inr ⟨by rfl, ?_⟩; with_reducible rfl)
      try simp only [List.getElem_toArray, List.getElem_cons_zero, List.getElem_cons_succ, Act.put, List.setIfInBounds_toArray, List.set_cons_zero, List.set_cons_succ]
      refine wpAnyT_one (i := 16) (by kernel_rfl) rfl (fun K hK => ?_)
      go_simp
      refine hK.out _ _ (fun _ => S5.mono ((Bel.refl w5).alloc _)) ?_
      clear hK K
      try simp only [List.getElem_toArray, List.getElem_cons_zero, List.getElem_cons_succ, Act.put, List.setIfInBounds_toArray, List.set_cons_zero, List.set_cons_succ]
      refine wpAnyT_one (i := 17) (by kernel_rfl) rfl (fun K hK => ?_)
      refine step_append_run (by rfl) _ _ _ (by rfl) v (.slice (some ⟨w5.heap.size, 0, none⟩) 1 1) (by rfl) (by rfl) _ (app_fn _ (HI5.out.mono ((Bel.refl w5).alloc _)).own (by rw [HZ.out]; omega) w5.heap.size rfl (fun j u hu => cells_new w5 #[.int .i64 (L[i]).args, .slice A5 lk c5] 34 j u hu) (Nat.le_trans hb5w ((Bel.refl w5).alloc (.cells #[.int .i64 (L[i]).args, .slice A5 lk c5] 34)).size)) ?_
      rintro v8 w8 ⟨ho8, hg8, g8, c8, hv8⟩
      subst hv8
      have HI8 := Lib.hid ((HI5.out.mono ((Bel.refl w5).alloc (.cells #[.int .i64 (L[i]).args, .slice A5 lk c5] 34))).push (z := (L[i], .slice A5 lk c5)) hPb (by omega) (by omega) hwP rfl (by rw [HLK.out]; exact own_bel HO5.out ((Bel.refl w5).alloc _)) HAP.out ho8 hg8)
      have hb8w : Pb + 1 ≤ w8.heap.size := Nat.le_trans hb5w (Nat.le_trans ((Bel.refl w5).alloc (.cells #[.int .i64 (L[i]).args, .slice A5 lk c5] 34)).size hg8.size)
      have S8 : OwnS w g Pb (.slice (some ⟨b, o, none⟩) n c) v w8 := by
        have HH := HI5.out.mono ((Bel.refl w5).alloc (.cells #[.int .i64 (L[i]).args, .slice A5 lk c5] 34))
        have k1 := blk_grown HH.pb HH.own (by decide) hg8
        have k2 := blk_grown HH.box HH.own (by decide) hg8
        exact ⟨row_low HH.own w (by omega) HH.bel hg8, k1.cell 0 rfl, k2.cell 0 rfl, k2.frozen 0⟩
      clear ho8 hg8
      refine hK.out _ _ (fun _ => S8) ?_
      clear hK K
      try simp only [List.getElem_toArray, List.getElem_cons_zero, List.getElem_cons_succ, Act.put, List.setIfInBounds_toArray, List.set_cons_zero, List.set_cons_succ]
      refine wpAnyU_take (i := 18) (v := ?v18) rfl (by kernel_rfl) (by kernel_rfl) (by kernel_rfl) (by kernel_rfl) (fun _ _ _ h => h) ?hy18 S8 ?rest18
      case hy18 => first | (refine Or.inl ⟨by rfl, ?_⟩; (intro w' hSw; go_simp) <;> with_reducible rfl) | (refine Or.inr ⟨by rfl, ?_⟩; with_reducible rfl)
      try simp only [List.getElem_toArray, List.getElem_cons_zero, List.getElem_cons_succ, Act.put, List.setIfInBounds_toArray, List.set_cons_zero, List.set_cons_succ]
      refine wpAnyT_one (i := 19) (by kernel_rfl) rfl (fun K hK => ?_)
      go_simp
      refine hK.out _ _ (fun h => absurd h (by decide)) ?_
      clear hK K
      try simp only [List.getElem_toArray, List.getElem_cons_zero, List.getElem_cons_succ, Act.put, List.setIfInBounds_toArray, List.set_cons_zero, List.set_cons_succ]
      refine wpAnyT_done (by kernel_rfl) ?_ _
      refine NoPanic.normal ?_
      clear SD S5 S8 P0 P1 P2 D0 D1
      go_wp2
      go_roundw
      case rel => exact ⟨i + 1, zs ++ [(L[i], .slice A5 lk c5)], _, rfl, by omega, by have := HTK.out; rw [List.map_append, List.map_singleton] at this ⊢; exact this, HI8.out, by rw [setCell_size]; exact hb8w⟩
      case measure => simp [intOf]; omega
def FnWf (f : FnD) : Prop := (∀ i ∈ f.code, i.Wf) ∧ (Lit.int .i64 f.args).wf = true
theorem few_facts {L : List FnD} (h : fewB L = true) : L.length ≤ 12 ∧ ∀ f ∈ L, f.code.length ≤ 80 := by
  unfold fewB at h
  rw [Bool.and_eq_true, List.all_eq_true] at h
  exact ⟨of_decide_eq_true h.1, fun f hf => of_decide_eq_true (h.2 f hf)⟩
theorem sl_wf {w : World} {A : Option Addr} {c : Nat} {L : List FnD} (h : Sl FnR 2 w A c L) : ∀ f ∈ L, FnWf f := by
  intro f hf
  obtain ⟨j, hj, rfl⟩ := List.mem_iff_getElem.1 hf
  obtain ⟨b, off, cs, -, -, ⟨A', c', -, hs, hw⟩, -⟩ := h.get j hj
  refine ⟨fun i hi => ?_, hw⟩
  obtain ⟨k, hk, rfl⟩ := List.mem_iff_getElem.1 hi
  obtain ⟨b', off', cs', -, -, ⟨-, hh⟩, -⟩ := hs.get k hk
  exact hh
theorem codes_wf {w : World} {A : Option Addr} {c : Nat} {l : List InstD} (h : Sl InstR 7 w A c l) : ∀ i ∈ l, i.Wf := by
  intro i hi
  obtain ⟨k, hk, rfl⟩ := List.mem_iff_getElem.1 hi
  obtain ⟨b', off', cs', -, -, ⟨-, hh⟩, -⟩ := h.get k hk
  exact hh
theorem fnR_own {X : World} {base : Nat} {z : FnD × Value} (h : X.ownsRow base 32 7 z.2 z.1.code.length (z.1.code.flatMap InstD.cells)) (hw : FnWf z.1) : FnR X (fnc z) z.1 := by
  obtain ⟨A', c', e, hs⟩ := sl_of_rows (R := InstR) InstD.cells (fun _ => rfl) id h (fun i hi => ⟨rfl, hw.1 i hi⟩)
  rw [List.map_id] at hs
  exact ⟨A', c', by rw [← e]; rfl, hs, hw.2⟩
theorem fns_of_own {X : World} {base : Nat} {v : Value} {zs : List (FnD × Value)} (h : X.ownsRow base 34 2 v zs.length (zs.flatMap fnc)) (hz : ∀ z ∈ zs, FnR X (fnc z) z.1) : ∃ A c, v = .slice A zs.length c ∧ Sl FnR 2 X A c (zs.map Prod.fst) :=
  sl_of_rows (R := FnR) fnc (fun _ => rfl) Prod.fst h hz
theorem OwnR.mono {w : World} {zs : List (FnD × Value)} {v : Value} {X Y : World} (h : OwnR w zs v X) (hb : Bel X Y) : OwnR w zs v Y :=
  ⟨h.bel.trans hb, own_bel h.own hb, fun z hz => own_bel (h.codes z hz) hb, h.apart⟩
theorem OwnR.sl {w : World} {zs : List (FnD × Value)} {v : Value} {X : World} (h : OwnR w zs v X) (hw : ∀ f ∈ zs.map Prod.fst, FnWf f) : ∃ A c, v = .slice A zs.length c ∧ Sl FnR 2 X A c (zs.map Prod.fst) :=
  fns_of_own h.own fun z hz => fnR_own (h.codes z hz) (hw _ (List.mem_map_of_mem hz))
theorem blk_not {X : World} {q : Nat} {cs cur : Array Value} {t1 t2 : TypeId} {g : Nat} (h : Blk X q t1 cs) (hg : X.heap[g]? = some (.cells cur t2 (0, 0))) (ht : t1 ≠ t2) : q ≠ g := by
  rintro rfl
  have e : X.heap[q]? = some (.cells cs t1 (0, 0)) := h
  rw [hg] at e
  simp only [Option.some.injEq, Obj.cells.injEq] at e
  exact ht e.2.1.symm
/-- One function more, behind. -/
theorem OwnR.push {w : World} {zs : List (FnD × Value)} {v v' : Value} {X Y : World} {f : FnD} {B : Option Addr} {cf q n : Nat} {A0 : Value} (h : OwnR w zs v X) (hq : Blk X q 24 #[A0]) (hwq : w.heap.size ≤ q) (hw : ∀ f ∈ zs.map Prod.fst, FnWf f) (hf : Sl InstR 7 w B cf f.code) (hfw : (Lit.int .i64 f.args).wf = true)
    (ho : Y.ownsRow w.heap.size 34 2 v' n (zs.flatMap fnc ++ [.int .i64 f.args, .slice B f.code.length cf])) (hn : n = zs.length + 1) (hg : X.grownBy Y v.ownBlock) :
    (∃ A' c', v' = .slice A' n c' ∧ Sl FnR 2 (Y.setCell ⟨q, 0, none⟩ v') A' c' (zs.map Prod.fst ++ [f])) ∧ Bel w (Y.setCell ⟨q, 0, none⟩ v') ∧ Blk (Y.setCell ⟨q, 0, none⟩ v') q 24 #[v'] := by
  subst hn
  have hqY : Blk Y q 24 #[A0] := blk_grown hq h.own (by decide) hg
  have hbY : Bel w Y := row_low h.own w (Nat.le_refl _) h.bel hg
  have hb2 : Bel w (Y.setCell ⟨q, 0, none⟩ v') := hbY.setCell (p := ⟨q, 0, none⟩) hwq v'
  have hq0 : Y.heap[q]? = some (.cells #[A0] 24 (0, 0)) := hqY
  refine ⟨?_, hb2, Blk.set (cs := #[A0]) hqY 0 v'⟩
  have key := fns_of_own (X := Y.setCell ⟨q, 0, none⟩ v') (base := w.heap.size) (v := v') (zs := zs ++ [(f, .slice B f.code.length cf)]) (by
    rw [List.length_append, List.flatMap_append, List.flatMap_singleton]
    exact ownsRow_setCell_other ho (own_not ho hq0 (by decide)) v') (by
    intro z hz
    rcases List.mem_append.1 hz with hz | hz
    · have h1 := own_grown (h.codes z hz) h.own (by decide) hg
      exact fnR_own (ownsRow_setCell_other h1 (own_not h1 hq0 (by decide)) v') (hw _ (List.mem_map_of_mem hz))
    · obtain rfl := List.mem_singleton.1 hz
      exact ⟨B, cf, rfl, hf.mono InstR.mono hb2, hfw⟩)
  rw [List.length_append, List.map_append] at key
  exact key
/-- A cell of a row of one's own is changed. -/
theorem own_setIn {X : World} {b s n c g : Nat} {t : TypeId} {xs : List Value} (h : X.ownsRow b t s (.slice (some ⟨g, 0, none⟩) n c) n xs) (j : Nat) (u : Value) : (X.setCell ⟨g, j, none⟩ u).ownsRow b t s (.slice (some ⟨g, 0, none⟩) n c) n (xs.set j u) := by
  refine ⟨by rw [List.length_set]; exact h.1, ?_⟩
  rcases h.2 with ⟨e, _⟩ | ⟨g', cap, cur, e, h1, h2, h3, h4, h5, h6⟩
  · cases e
  · simp only [Value.slice.injEq, Option.some.injEq, Addr.mk.injEq, and_true, true_and] at e
    obtain ⟨rfl, rfl⟩ := e
    refine .inr ⟨g, c, cur.setIfInBounds j u, rfl, h1, Blk.set (cs := cur) h2 j u, h3, h4, by rw [Array.size_setIfInBounds]; exact h5, ?_⟩
    rw [Array.toList_setIfInBounds, ← h6, List.take_set]
def set7 (X : World) (g o : Nat) (x : InstD) : World := ((((((X.setCell ⟨g, o, none⟩ (.int .i64 x.op)).setCell ⟨g, o + 1, none⟩ (.int .i64 x.fn)).setCell ⟨g, o + 2, none⟩ (.int .i64 x.dst)).setCell ⟨g, o + 3, none⟩ (.int .i64 x.src)).setCell ⟨g, o + 4, none⟩ (.bool x.reg)).setCell ⟨g, o + 5, none⟩ (.int .i64 x.off)).setCell ⟨g, o + 6, none⟩ (.int .u32 x.imm)
def lset7 (l : List Value) (o : Nat) (x : InstD) : List Value := ((((((l.set o (.int .i64 x.op)).set (o + 1) (.int .i64 x.fn)).set (o + 2) (.int .i64 x.dst)).set (o + 3) (.int .i64 x.src)).set (o + 4) (.bool x.reg)).set (o + 5) (.int .i64 x.off)).set (o + 6) (.int .u32 x.imm)
theorem lset7_app (a l : List Value) (o : Nat) (x : InstD) : lset7 (a ++ l) (a.length + o) x = a ++ lset7 l o x := by
  unfold lset7
  have e : ∀ k, a.length + o + k = a.length + (o + k) := fun k => Nat.add_assoc ..
  have s : ∀ (l : List Value) (k : Nat) (v : Value), (a ++ l).set (a.length + k) v = a ++ l.set k v := fun l k v => by
    rw [List.set_append_right _ _ (Nat.le_add_right _ _), Nat.add_sub_cancel_left]
  rw [e, e, e, e, e, e, s, s, s, s, s, s, s]
theorem lset7_flat (x : InstD) : ∀ (l : List InstD) (k : Nat), k < l.length → lset7 (l.flatMap InstD.cells) (k * 7) x = (l.set k x).flatMap InstD.cells
  | [], k, h => by simp at h
  | a :: l, 0, _ => by
    rw [List.flatMap_cons, List.set_cons_zero, List.flatMap_cons]
    rfl
  | a :: l, k + 1, h => by
    rw [List.flatMap_cons, List.set_cons_succ, List.flatMap_cons, ← lset7_flat x l k (by simpa using h), ← lset7_app]
    congr 1
    simp only [InstD.cells, List.length_cons, List.length_nil]
    omega
theorem own_set7 {X : World} {b n c g : Nat} {t : TypeId} {xs : List Value} (h : X.ownsRow b t 7 (.slice (some ⟨g, 0, none⟩) n c) n xs) (o : Nat) (x : InstD) : (set7 X g o x).ownsRow b t 7 (.slice (some ⟨g, 0, none⟩) n c) n (lset7 xs o x) :=
  own_setIn (own_setIn (own_setIn (own_setIn (own_setIn (own_setIn (own_setIn h _ _) _ _) _ _) _ _) _ _) _ _) _ _
theorem own_set7_other {X : World} {b s n g : Nat} {t : TypeId} {v : Value} {xs : List Value} (h : X.ownsRow b t s v n xs) (hg : v.ownBlock ≠ some g) (o : Nat) (x : InstD) : (set7 X g o x).ownsRow b t s v n xs := by
  have s : ∀ {Y : World} (hY : Y.ownsRow b t s v n xs) (k : Nat) (u : Value), (Y.setCell ⟨g, k, none⟩ u).ownsRow b t s v n xs := fun hY k u => ownsRow_setCell_other hY hg u
  exact s (s (s (s (s (s (s h _ _) _ _) _ _) _ _) _ _) _ _) _ _
theorem bel_set7 {w X : World} {g : Nat} (h : Bel w X) (hg : w.heap.size ≤ g) (o : Nat) (x : InstD) : Bel w (set7 X g o x) := by
  have s : ∀ {Y : World} (hY : Bel w Y) (k : Nat) (u : Value), Bel w (Y.setCell ⟨g, k, none⟩ u) := fun hY k u => hY.setCell (p := ⟨g, k, none⟩) hg u
  exact s (s (s (s (s (s (s h _ _) _ _) _ _) _ _) _ _) _ _) _ _
theorem blk_set7 {X : World} {q g : Nat} {t : TypeId} {cs : Array Value} (h : Blk X q t cs) (hg : q ≠ g) (o : Nat) (x : InstD) : Blk (set7 X g o x) q t cs := by
  have s : ∀ {Y : World} (hY : Blk Y q t cs) (k : Nat) (u : Value), Blk (Y.setCell ⟨g, k, none⟩ u) q t cs := fun hY k u => hY.other (p := ⟨g, k, none⟩) hg u
  exact s (s (s (s (s (s (s h _ _) _ _) _ _) _ _) _ _) _ _) _ _
theorem flat_same {zs : List (FnD × Value)} {i : Nat} (hi : i < zs.length) {z : FnD × Value} (he : fnc z = fnc zs[i]) : (zs.set i z).flatMap fnc = zs.flatMap fnc := by
  rw [List.flatMap_def, List.flatMap_def, List.map_set, he, ← List.getElem_map fnc (h := by rw [List.length_map]; exact hi), List.set_getElem_self]
/-- What a code's row tells, and what a store of an instruction makes of it. -/
theorem OwnR.put {w : World} {zs : List (FnD × Value)} {v : Value} {X : World} (h : OwnR w zs v X) (hw : ∀ f ∈ zs.map Prod.fst, FnWf f) {i : Nat} (hi : i < zs.length) {k : Nat} (hk : k < (zs[i]).1.code.length) :
    ∃ D cD G cG, v = .slice (some ⟨D, 0, none⟩) zs.length cD ∧ X.cell? ⟨D, i * 2 + 1, none⟩ = some (.slice (some ⟨G, 0, none⟩) (zs[i]).1.code.length cG) ∧ (∀ j, X.frozen? ⟨G, j, none⟩ = false) ∧ w.heap.size ≤ G ∧ (∀ j, j < (zs[i]).1.code.length * 7 → ∃ u, X.cell? ⟨G, j, none⟩ = some u) ∧
      ∀ (x : InstD) (q : Nat) (cs : Array Value), x.Wf → Blk X q 24 cs → Sl FnR 2 (set7 X G (k * 7) x) (some ⟨D, 0, none⟩) cD ((zs.map Prod.fst).set i ⟨(zs[i]).1.args, (zs[i]).1.code.set k x⟩) ∧ Bel w (set7 X G (k * 7) x) ∧ Blk (set7 X G (k * 7) x) q 24 cs := by
  have hmem : zs[i] ∈ zs := List.getElem_mem hi
  have hc := h.codes _ hmem
  obtain ⟨G, cG, hv2⟩ : ∃ G cG, (zs[i]).2 = .slice (some ⟨G, 0, none⟩) (zs[i]).1.code.length cG := by
    obtain ⟨m, hm⟩ : ∃ m, (zs[i]).1.code.length = m + 1 := ⟨(zs[i]).1.code.length - 1, by omega⟩
    rw [hm] at hc ⊢
    exact own_form hc
  obtain ⟨D, cD, hv1⟩ : ∃ D cD, v = .slice (some ⟨D, 0, none⟩) zs.length cD := by
    have ho := h.own
    obtain ⟨m, hm⟩ : ∃ m, zs.length = m + 1 := ⟨zs.length - 1, by omega⟩
    rw [hm] at ho ⊢
    exact own_form ho
  subst hv1
  rw [hv2] at hc
  obtain ⟨curG, hG0, hGb⟩ : ∃ cur, X.heap[G]? = some (.cells cur 32 (0, 0)) ∧ w.heap.size ≤ G := by
    rcases hc.2 with ⟨e, _⟩ | ⟨g', cap, cur, e, h1, h2, _⟩
    · cases e
    · simp only [Value.slice.injEq, Option.some.injEq, Addr.mk.injEq, and_true, true_and] at e
      obtain ⟨rfl, rfl⟩ := e
      exact ⟨cur, h2, h1⟩
  refine ⟨D, cD, G, cG, rfl, ?_, fun j => by simp [World.frozen?, hG0], hGb, ?_, ?_⟩
  · rcases own_openP h.own with ⟨e, _⟩ | ⟨g, c, e, -, -, -, -, -, hcl⟩
    · cases e
    · simp only [Value.slice.injEq, Option.some.injEq, Addr.mk.injEq, and_true, true_and] at e
      obtain ⟨rfl, rfl⟩ := e
      refine hcl (i * 2 + 1) _ ?_
      rw [flat_getP fnc 2 (fun _ => rfl) zs i 1 hi (by decide)]
      simp [fnc, hv2]
  · intro j hj
    rcases own_openP hc with ⟨e, _⟩ | ⟨g, c, e, -, -, -, -, -, hcl⟩
    · cases e
    · simp only [Value.slice.injEq, Option.some.injEq, Addr.mk.injEq, and_true, true_and] at e
      obtain ⟨rfl, rfl⟩ := e
      have hl : j < ((zs[i]).1.code.flatMap InstD.cells).length := by rw [flat7]; exact hj
      exact ⟨_, hcl j _ (List.getElem?_eq_getElem hl)⟩
  · intro x q cs hx hq
    have hb2 := bel_set7 h.bel hGb (k * 7) x
    refine ⟨?_, hb2, blk_set7 hq (blk_not hq hG0 (by decide)) (k * 7) x⟩
    have hrow := own_set7 hc (k * 7) x
    rw [lset7_flat x _ k hk] at hrow
    have key := fns_of_own (X := set7 X G (k * 7) x) (base := w.heap.size) (v := .slice (some ⟨D, 0, none⟩) zs.length cD) (zs := zs.set i (⟨(zs[i]).1.args, (zs[i]).1.code.set k x⟩, (zs[i]).2)) (by
      rw [List.length_set, flat_same hi (by simp only [fnc])]
      exact own_set7_other h.own (own_not h.own hG0 (by decide)) (k * 7) x) (by
      intro z hz
      obtain ⟨j, hj, rfl⟩ := List.mem_iff_getElem.1 hz
      rw [List.length_set] at hj
      by_cases hij : i = j
      · subst hij
        rw [List.getElem_set_self]
        have hwf := hw _ (List.mem_map_of_mem hmem)
        refine fnR_own (base := w.heap.size) ?_ ⟨fun y hy => ?_, hwf.2⟩
        · simp only
          rw [hv2, List.length_set]
          exact hrow
        · simp only at hy
          rcases List.mem_or_eq_of_mem_set hy with hy | rfl
          · exact hwf.1 y hy
          · exact hx
      · rw [List.getElem_set_ne hij]
        have hmj : zs[j] ∈ zs := List.getElem_mem hj
        refine fnR_own (own_set7_other (h.codes _ hmj) (fun e => ?_) (k * 7) x) (hw _ (List.mem_map_of_mem hmj))
        have hp := List.pairwise_iff_getElem.1 h.apart
        rcases Nat.lt_or_gt_of_ne hij with hlt | hlt
        · exact hp i j hi hj hlt (by rw [hv2]; simp [Value.ownBlock]) (by rw [e, hv2]; rfl)
        · exact hp j i hj hi hlt (by rw [e]; simp) (by rw [e, hv2]; rfl))
    obtain ⟨A', c', e, hs⟩ := key
    rw [List.length_set] at e
    simp only [Value.slice.injEq, true_and] at e
    obtain ⟨rfl, rfl⟩ := e
    rw [List.map_set] at hs
    exact hs
end Go.Proofs.Ytebdnobgdimdoaa
set_option linter.unusedVariables false
set_option linter.unusedSimpArgs false
namespace Go.Proofs.Ytebdnobgdimdoaa
open Go.RowKit

/-- The first function's code is replaced by one in a row of its own. -/
theorem OwnR.code {w : World} {z0 : FnD × Value} {zs : List (FnD × Value)} {D cD n : Nat} {X X2 : World} {x : InstD} {v' : Value} (h : OwnR w (z0 :: zs) (.slice (some ⟨D, 0, none⟩) n cD) X) (hn : n = zs.length + 1) (hb : Bel X X2) {m : Nat} (hm : m = z0.1.code.length + 1)
    (ho : X2.ownsRow X.heap.size 32 7 v' m (x.cells ++ z0.1.code.flatMap InstD.cells)) :
    OwnR w ((⟨z0.1.args, x :: z0.1.code⟩, v') :: zs) (.slice (some ⟨D, 0, none⟩) n cD) (X2.setCell ⟨D, 1, none⟩ v') := by
  subst hn hm
  have hown := own_bel h.own hb
  obtain ⟨curD, hD0, hDb⟩ : ∃ cur, X2.heap[D]? = some (.cells cur 34 (0, 0)) ∧ w.heap.size ≤ D := by
    rcases hown.2 with ⟨e, _⟩ | ⟨g', cap, cur, e, h1, h2, _⟩
    · cases e
    · simp only [Value.slice.injEq, Option.some.injEq, Addr.mk.injEq, and_true, true_and] at e
      obtain ⟨rfl, -⟩ := e
      exact ⟨cur, h2, h1⟩
  refine ⟨(h.bel.trans hb).setCell (p := ⟨D, 1, none⟩) hDb v', ?_, ?_, ?_⟩
  · have h1 := own_setIn hown 1 v'
    have e : (((z0 :: zs).flatMap fnc).set 1 v') = (((⟨z0.1.args, x :: z0.1.code⟩, v') : FnD × Value) :: zs).flatMap fnc := by
      simp [fnc]
    rw [e] at h1
    exact h1
  · intro z hz
    rcases List.mem_cons.1 hz with rfl | hz
    · have h2 : X2.ownsRow w.heap.size 32 7 v' (z0.1.code.length + 1) (x.cells ++ z0.1.code.flatMap InstD.cells) := own_mono ho h.bel.size
      exact ownsRow_setCell_other h2 (own_not h2 hD0 (by decide)) v'
    · have h2 := own_bel (h.codes z (List.mem_cons_of_mem _ hz)) hb
      exact ownsRow_setCell_other h2 (own_not h2 hD0 (by decide)) v'
  · have ha := List.pairwise_cons.1 h.apart
    refine List.pairwise_cons.2 ⟨fun r hr hne e => ?_, ha.2⟩
    cases hk : r.2.ownBlock with
    | none => exact hne (e.trans hk)
    | some k =>
      have h1 := own_ltN (h.codes r (List.mem_cons_of_mem _ hr)) hk
      have h2 := ho.lt k (e.trans hk)
      omega
/-- A program whose first instruction reads a register is not accepted. -/
def readsB (x : InstD) (n : Int) : Prop := (x.op = 0 ∧ x.fn ≠ 0 ∧ x.dst = n) ∨ (x.op = 0 ∧ x.reg = true ∧ x.src = n) ∨ (x.op = 4 ∧ x.dst = n)
theorem shNew0 (n : Int) : shGet (shNew 0) n = none := by
  unfold shGet shNew
  split
  · rw [if_neg (by omega)]
  · rfl
theorem read_step {p : List FnD} {ls : List SchD} {x : InstD} {n : Int} (h : readsB x n) (ins : InsD) : vStep p 0 ls 0 x (shNew 0) ins = none := by
  rcases h with ⟨h1, h2, rfl⟩ | ⟨h1, h2, rfl⟩ | ⟨h1, rfl⟩
  · unfold vStep
    rw [if_pos h1, if_neg h2, shNew0]
    cases shWord (shNew 0) x <;> rfl
  · unfold vStep
    rw [if_pos h1]
    unfold shWord
    rw [if_pos h2, shNew0]
    rfl
  · unfold vStep
    rw [h1, if_neg (by decide), if_neg (by decide), if_neg (by decide), if_neg (by decide), if_pos rfl, shNew0]
    rfl
theorem read_upto {p : List FnD} {ls : List SchD} {x : InstD} {l : List InstD} {n : Int} (h : readsB x n) : ∀ k, vUpto p 0 ls (x :: l) 0 (k + 1) = none
  | 0 => by
    rw [vUpto, vUpto]
    simp only [Option.bind_some, List.length_cons, List.replicate_succ, List.set_cons_zero, List.getD_cons_zero]
    exact read_step h _
  | k + 1 => by
    rw [vUpto, read_upto h k]
    rfl
theorem read_args {a : Int} {x : InstD} {l : List InstD} {L : List FnD} (h : progMay (⟨a, x :: l⟩ :: L) = true) : a = 0 := by
  unfold progMay at h
  simp only [Bool.and_eq_true, decide_eq_true_eq, List.map_cons, List.getD_cons_zero] at h
  exact h.1.2
theorem read_err {a : Int} {x : InstD} {l : List InstD} {L : List FnD} {ls : List SchD} {n : Int} (h : readsB x n) : verErr (⟨a, x :: l⟩ :: L) ls 1 ≠ 0 := by
  rw [verErr, verErr, if_neg (by simp)]
  have e : (vShapes (⟨a, x :: l⟩ :: L) ((0 : Nat) : Int) ls).2 ≠ 0 := by
    unfold vShapes
    split
    · rename_i hp
      obtain rfl := read_args hp.1
      rw [if_pos (by simp)]
      have q := read_upto (p := ⟨0, x :: l⟩ :: L) (ls := ls) (l := l) h l.length
      simp only [List.map_cons, Int.toNat_natCast, List.getD_cons_zero, List.length_cons, Int.toNat_zero] at q ⊢
      rw [q]
      decide
    · decide
  rw [if_pos e]
  exact e
theorem read_bad {a : Int} {x : InstD} {l : List InstD} {L : List FnD} {ls : List SchD} {n : Int} (h : readsB x n) : ∃ er, verifyV (⟨a, x :: l⟩ :: L) ls = (0, er) ∧ er ≠ 0 := by
  obtain ⟨er, he⟩ : ∃ er, verErr (⟨a, x :: l⟩ :: L) ls 1 = er := ⟨_, rfl⟩
  have h1 : er ≠ 0 := by rw [← he]; exact read_err h
  refine ⟨er, ?_, h1⟩
  unfold verifyV
  rw [verErr_stay he h1 _ (Nat.le_max_left _ _), if_pos h1]
theorem read_steps {a : Int} {x : InstD} {l : List InstD} {L : List FnD} {ls : List SchD} {n : Int} (h : readsB x n) (fn : Nat) (hfn : fn < max 1 (⟨a, x :: l⟩ :: L : List FnD).length) (he : verErr (⟨a, x :: l⟩ :: L) ls fn = 0) : StepsFor (⟨a, x :: l⟩ :: L) ls fn := by
  cases fn with
  | zero =>
    intro hp k ins s h1 h2 h3
    obtain rfl := read_args hp
    cases k with
    | zero =>
      show StepOk x.op
      rcases h with ⟨h1, _⟩ | ⟨h1, _⟩ | ⟨h1, _⟩
      · rw [h1]; exact step_alu
      · rw [h1]; exact step_alu
      · rw [h1]; exact step_store
    | succ k =>
      have q := read_upto (p := ⟨0, x :: l⟩ :: L) (ls := ls) (l := l) h k
      have h1' : vUpto (⟨0, x :: l⟩ :: L) 0 ls (x :: l) 0 (k + 1) = some ins := h1
      rw [q] at h1'
      cases h1'
  | succ fn => exact absurd (verErr_stay (e := verErr (⟨a, x :: l⟩ :: L) ls 1) rfl (read_err h) (fn + 1) (by omega)) (fun e => read_err h (e.symm.trans he))
/-- The three instructions. -/
def rdA (n : Int) : InstD := ⟨0, 1, n, 0, false, 0, 1⟩
def rdB (n : Int) : InstD := ⟨0, 0, 6, n, true, 0, 0⟩
def rdC (n : Int) : InstD := ⟨4, 0, n, 0, false, 0, 0⟩
theorem rdA_r (n : Int) : readsB (rdA n) n := .inl ⟨rfl, by simp [rdA], rfl⟩
theorem rdB_r (n : Int) : readsB (rdB n) n := .inr (.inl ⟨rfl, rfl, rfl⟩)
theorem rdC_r (n : Int) : readsB (rdC n) n := .inr (.inr ⟨rfl, rfl⟩)
theorem lit_i64 {n : Int} (h0 : 0 ≤ n) (h7 : n ≤ 7) : I64 n := by constructor <;> omega
theorem rdA_wf {n : Int} (h0 : 0 ≤ n) (h7 : n ≤ 7) : (rdA n).Wf := ⟨(by constructor <;> decide : I64 0), (by constructor <;> decide : I64 1), lit_i64 h0 h7, (by constructor <;> decide : I64 0), (by constructor <;> decide : I64 0), (by constructor <;> decide : U32 1)⟩
theorem rdB_wf {n : Int} (h0 : 0 ≤ n) (h7 : n ≤ 7) : (rdB n).Wf := ⟨(by constructor <;> decide : I64 0), (by constructor <;> decide : I64 0), (by constructor <;> decide : I64 6), lit_i64 h0 h7, (by constructor <;> decide : I64 0), (by constructor <;> decide : U32 0)⟩
theorem rdC_wf {n : Int} (h0 : 0 ≤ n) (h7 : n ≤ 7) : (rdC n).Wf := ⟨(by constructor <;> decide : I64 4), (by constructor <;> decide : I64 0), lit_i64 h0 h7, (by constructor <;> decide : I64 0), (by constructor <;> decide : I64 0), (by constructor <;> decide : U32 0)⟩
end Go.Proofs.Ytebdnobgdimdoaa
set_option linter.unusedVariables false
set_option linter.unusedSimpArgs false
namespace Go.Proofs.Ytebdnobgdimdoaa
open Go.RowKit

def ProgR (w : World) (cs : List Value) (L : List FnD) : Prop := ∃ A c, cs = [.slice A L.length c] ∧ Sl FnR 2 w A c L
theorem cells_Fn : Try.prog.cellsOf 34 = 2 := by kernel_rfl
theorem cells_Prog : Try.prog.cellsOf 24 = 1 := by kernel_rfl
theorem cells_insts : Try.prog.cellsOf 29 = 1 := by kernel_rfl
theorem cells_fns : Try.prog.cellsOf 22 = 1 := by kernel_rfl
theorem cells_Schema : Try.prog.cellsOf 40 = 4 := by kernel_rfl
section
variable {H : Type} {enc : TypeId × Value → H} {w : World} {base : Nat} {spare : Nat → Bool} {held : Bool}
theorem open_Fn {n : Nat} {cs : List Value} {y : DataW H × List MemPlace} (h : DataW.trod enc Try.prog w base spare held n 34 cs = some y) : ∃ x : FnD, FnR w cs x := by
  obtain ⟨m, hl, hf⟩ := trod_field Try.underlying34 h
  rw [cells_Fn] at hl
  match cs, hl with
  | [v0, v1], _ =>
  obtain ⟨y0, h0⟩ := hf 0 3 0 1 rfl cells_int
  obtain ⟨y1, h1⟩ := hf 1 29 1 1 rfl cells_insts
  obtain ⟨a0, e0, _, w0⟩ := DataW.trod_int Try.underlying3 h0
  obtain ⟨A, c, l, e1, hs⟩ := open_sl (R := InstR) (sz := 7) Try.underlying29 cells_Inst (by decide) (fun n cs y hl hy => open_Inst hy) h1
  simp at e0 e1
  subst e0 e1
  exact ⟨⟨a0, l⟩, A, c, rfl, hs, w0⟩
theorem open_Prog {n : Nat} {cs : List Value} {y : DataW H × List MemPlace} (h : DataW.trod enc Try.prog w base spare held n 24 cs = some y) : ∃ L : List FnD, ProgR w cs L := by
  obtain ⟨m, hl, hf⟩ := trod_field Try.underlying24 h
  rw [cells_Prog] at hl
  match cs, hl with
  | [v0], _ =>
  obtain ⟨y0, h0⟩ := hf 0 22 0 1 rfl cells_fns
  obtain ⟨A, c, L, e0, hs⟩ := open_sl (R := FnR) (sz := 2) Try.underlying22 cells_Fn (by decide) (fun n cs y hl hy => open_Fn hy) h0
  simp at e0
  subst e0
  exact ⟨L, A, c, rfl, hs⟩
theorem open_Schema {n : Nat} {cs : List Value} {y : DataW H × List MemPlace} (h : DataW.trod enc Try.prog w base spare held n 40 cs = some y) : ∃ x : SchD, SchR w cs x := by
  obtain ⟨m, hl, hf⟩ := trod_field Try.underlying40 h
  rw [cells_Schema] at hl
  match cs, hl with
  | [v0, v1, v2, v3], _ =>
  obtain ⟨y0, h0⟩ := hf 0 3 0 1 rfl cells_int
  obtain ⟨y1, h1⟩ := hf 1 3 1 1 rfl cells_int
  obtain ⟨y2, h2⟩ := hf 2 3 2 1 rfl cells_int
  obtain ⟨y3, h3⟩ := hf 3 3 3 1 rfl cells_int
  obtain ⟨a0, e0, _, w0⟩ := DataW.trod_int Try.underlying3 h0
  obtain ⟨a1, e1, _, w1⟩ := DataW.trod_int Try.underlying3 h1
  obtain ⟨a2, e2, _, w2⟩ := DataW.trod_int Try.underlying3 h2
  obtain ⟨a3, e3, _, w3⟩ := DataW.trod_int Try.underlying3 h3
  simp at e0 e1 e2 e3
  subst e0 e1 e2 e3
  exact ⟨⟨a0, a1, a2, a3⟩, rfl, w0, w1, w2, w3⟩
end
end Go.Proofs.Ytebdnobgdimdoaa
set_option linter.unusedVariables false
set_option linter.unusedSimpArgs false
namespace Go.Proofs.Ytebdnobgdimdoaa
open Go.RowKit

theorem shapes_all (A : Option Addr) (c n : Nat) (p : List FnD) (fn : Nat) (Q : Option Addr) (nl cQ : Nat) (ls : List SchD) (w : World) (hp : Sl FnR 2 w A c p) (hn : p.length = n) (hls : Sl SchR 4 w Q cQ ls) (hnl : ls.length = nl) (F : InsD) (hr : Hid (vShapes p fn ls = (some F, 0))) :
    Calls Try.prog 10 #[.agg #[.slice A n c], .int .i64 fn, .slice Q nl cQ] w fun e w' => (∃ Bi Bs len, e = .returned (.tuple #[.slice (some ⟨Bi, 0, none⟩) len len, .slice (some ⟨Bs, 0, none⟩) len len, .int .i64 0]) ∧ F.length = len ∧ Bk w' Bi 68 (insC F) ∧ Bk w' Bs 4 (insB F)) ∧ Bel w w' :=
  (shapes_any A c n p fn Q nl cQ ls w (Lib.hid hp) (Lib.hid hn) (Lib.hid hls) (Lib.hid hnl) (some F) 0 hr (Lib.hid (steps_all p ls fn))).mono fun e w' ⟨⟨vi, vs, he, h⟩, hb⟩ => by
    obtain ⟨Bi, Bs, len, rfl, rfl, h1, h2, h3⟩ := h F rfl
    exact ⟨⟨Bi, Bs, len, he, h1, h2, h3⟩, hb⟩
theorem sch_one : ∀ (w : World) (cs : List Value) (x : SchD), SchR w cs x → ∀ u ∈ cs, u.oneCell' = true := fun w cs x h u hu => by
  rw [h.1] at hu
  simp only [SchD.cells, List.mem_cons, List.not_mem_nil, or_false] at hu
  rcases hu with rfl | rfl | rfl | rfl <;> rfl
theorem info_sch : (Try.prog.info? 40).map (fun i => (i.zero, i.size, i.bytes)) = some (some (.agg #[.int .i64 0, .int .i64 0, .int .i64 0, .int .i64 0]), 4, 32) := by kernel_rfl
theorem sch_css {w w' : World} {l : List SchD} {css : List (List Value)} (h : Css SchR 4 w l css) : Css SchR 4 w' l css := ⟨h.len, h.all, h.rel⟩
theorem own_belV {w w' : World} {b : Nat} {e : TypeId} {s : Nat} {v : Value} {n : Nat} {xs : List Value} (h : w.ownsRow b e s v n xs) (hb : Bel w w') : w'.ownsRow b e s v n xs :=
  ⟨h.1, h.2.imp id fun ⟨g, cap, cur, e1, e2, e3, r⟩ => ⟨g, cap, cur, e1, e2, (hb.out.block g (Array.getElem?_eq_some_iff.1 e3).1).trans e3, r⟩⟩
set_option maxHeartbeats 8000000 in
set_option maxRecDepth 100000 in
theorem VerifyMore_walk (C : Array Value) (LL : List FnD) (Q : Option Addr) (cQ : Nat) (ls : List SchD) (C2 : Array Value) (x : SchD) (W : World) (hp : ProgR W C.toList LL) (hls : Sl SchR 4 W Q cQ ls) (hx : SchR W C2.toList x) :
    Calls Try.prog 4 #[.agg C, .slice Q ls.length cQ, .agg C2] W fun e w' => e = .returned (.bool true) ∧ Bel W w' := by
  obtain ⟨A, c, hC, hsl⟩ := hp
  obtain rfl : C = #[.slice A LL.length c] := by cases C; simpa using hC
  obtain rfl : C2 = #[.int .i64 x.kind, .int .i64 x.cap, .int .i64 x.words, .int .i64 x.ver] := by cases C2; simpa [SchD.cells] using hx.1
  have hxw := Lib.hid hx
  clear hC hx
  obtain ⟨n, hn0⟩ : ∃ n, LL.length = n := ⟨_, rfl⟩
  have hn := Lib.hid hn0
  rw [hn0]
  obtain ⟨nl, hnl0⟩ : ∃ n, ls.length = n := ⟨_, rfl⟩
  have hnl := Lib.hid hnl0
  rw [hnl0]
  have HBa := Lib.hid (((Bel.refl W).alloc (.cells #[.slice A n c] 24)).alloc (.cells #[.int .i64 x.kind, .int .i64 x.cap, .int .i64 x.words, .int .i64 x.ver] 40))
  have HS := Lib.hid (hsl.mono FnR.mono HBa.out)
  have HLQ := Lib.hid (hls.mono SchR.mono HBa.out)
  have K0 := Lib.hid ((Bk.new W 24 #[.slice A n c]).alloc (.cells #[.int .i64 x.kind, .int .i64 x.cap, .int .i64 x.words, .int .i64 x.ver] 40))
  have K1 := Bk.new (W.alloc (.cells #[.slice A n c] 24)) 40 #[.int .i64 x.kind, .int .i64 x.cap, .int .i64 x.words, .int .i64 x.ver]
  rw [World.size_alloc] at K1
  have K1 := Lib.hid K1
  obtain ⟨fv, hfv⟩ : ∃ fv, Hid (fewB LL = fv) := ⟨_, Lib.hid rfl⟩
  clear hsl hn0 hls hnl0
  go_enter Try.func4, Try.ntmps4
  go_wp2_with fail
  generalize (W.alloc (.cells #[.slice A n c] 24)).alloc (.cells #[.int .i64 x.kind, .int .i64 x.cap, .int .i64 x.words, .int .i64 x.ver] 40) = W1 at *
  generalize W.heap.size = g at *
  refine (awake11 _).mono ?_
  rintro e w1 ⟨rfl, hb⟩
  have HB1 := Lib.hid hb
  clear hb
  have q1 := (K0.out.bel HB1.out).cell 0 (v := .slice A n c) rfl
  go_wp2_with fail
  refine (refFew_any A c n LL fv _ (HS.out.mono FnR.mono HB1.out) hn hfv).mono ?_
  rintro e w2 ⟨rfl, hb⟩
  have HB := Lib.hid (HBa.out.trans (HB1.out.trans hb))
  have HB2 := Lib.hid (HB1.out.trans hb)
  clear hb q1 HB1
  cases fv
  · go_wp2_with fail
    go_ret
    exact ⟨by first | rfl | simp, HB.out⟩
  by_cases hl3 : 3 < nl
  · have t1 : decide (3 < nl) = true := decide_eq_true hl3
    have t2 : (3 : Int) < nl := by omega
    go_wp2_with fail
    go_ret
    exact ⟨by first | rfl | simp, HB.out⟩
  have t2 : (nl : Int) ≤ 3 := by omega
  have q2 := (K0.out.bel HB2.out).cell 0 (v := .slice A n c) rfl
  have HFEW := Lib.hid (few_facts hfv.out)
  obtain ⟨m1, e1, hv1⟩ : ∃ m e, Hid (verifyV LL ls = (m, e)) := ⟨_, _, Lib.hid rfl⟩
  go_wp2_with fail
  refine (verify_all A c n LL Q nl cQ ls _ (HS.out.mono FnR.mono HB2.out) hn.out (HLQ.out.mono SchR.mono HB2.out) hnl.out m1 e1 hv1).mono ?_
  rintro e w3 ⟨rfl, hb⟩
  have HB3 := Lib.hid (HB2.out.trans hb)
  clear hb q2 HB2 HB t2
  go_wp2_with fail
  have K03 := Lib.hid (K0.out.bel HB3.out)
  have K13 := Lib.hid (K1.out.bel HB3.out)
  have HS3 := Lib.hid (HS.out.mono FnR.mono HB3.out)
  have HL3 := Lib.hid (HLQ.out.mono SchR.mono HB3.out)
  have HBw := Lib.hid (HBa.out.trans HB3.out)
  clear K0 K1 HS HLQ HB3 HBa
  have SD := (Bel.refl w3).drew
  have P0 := fun (w' : World) (h : Bel w3 w') => h.cell (K03.out.cell 0 (v := .slice A n c) rfl)
  have P1 := fun (w' : World) (h : Bel w3 w') => h.cell (K13.out.cell 0 (v := .int .i64 x.kind) rfl)
  have P2 := fun (w' : World) (h : Bel w3 w') => h.cell (K13.out.cell 1 (v := .int .i64 x.cap) rfl)
  have P3 := fun (w' : World) (h : Bel w3 w') => h.cell (K13.out.cell 2 (v := .int .i64 x.words) rfl)
  have P4 := fun (w' : World) (h : Bel w3 w') => h.cell (K13.out.cell 3 (v := .int .i64 x.ver) rfl)
  obtain ⟨m2, e2, hv2⟩ : ∃ m e, Hid (verifyV LL (ls ++ [x]) = (m, e)) := ⟨_, _, Lib.hid rfl⟩
  refine wp_region_T (fun w' => Bel w3 w') (fun _ => false) (by kernel_rfl) ?_
  refine wpAnyU_take (i := 0) (v := ?v0a) rfl (by kernel_rfl) (by kernel_rfl) (by kernel_rfl) (by kernel_rfl) (fun _ _ _ h => h) ?hy0a SD ?rest0a
  case hy0a => first | (refine Or.inl ⟨by rfl, ?_⟩; (intro w' hSw; go_simp) <;> with_reducible rfl) | (refine Or.inr ⟨by rfl, ?_⟩; with_reducible rfl)
  try simp only [List.getElem_toArray, List.getElem_cons_zero, List.getElem_cons_succ, Act.put, List.setIfInBounds_toArray, List.set_cons_zero, List.set_cons_succ]
  refine wpAnyU_take (i := 1) (v := ?v1a) rfl (by kernel_rfl) (by kernel_rfl) (by kernel_rfl) (by kernel_rfl) (fun _ _ _ h => h) ?hy1a SD ?rest1a
  case hy1a => first | (refine Or.inl ⟨by rfl, ?_⟩; (intro w' hSw; go_simp) <;> with_reducible rfl) | (refine Or.inr ⟨by rfl, ?_⟩; with_reducible rfl)
  try simp only [List.getElem_toArray, List.getElem_cons_zero, List.getElem_cons_succ, Act.put, List.setIfInBounds_toArray, List.set_cons_zero, List.set_cons_succ]
  refine wpAnyU_take (i := 3) (v := ?v3a) rfl (by kernel_rfl) (by kernel_rfl) (by kernel_rfl) (by kernel_rfl) (fun _ _ _ h => h) ?hy3a SD ?rest3a
  case hy3a => first | (refine Or.inl ⟨by rfl, ?_⟩; (intro w' hSw; go_simp) <;> with_reducible rfl) | (refine Or.inr ⟨by rfl, ?_⟩; with_reducible rfl)
  try simp only [List.getElem_toArray, List.getElem_cons_zero, List.getElem_cons_succ, Act.put, List.setIfInBounds_toArray, List.set_cons_zero, List.set_cons_succ]
  refine wpAnyT_listed (l' := #[true, true, false, true, false, false, false, false, false, false, false, false]) (by kernel_rfl) ?_
  refine wpAnyT_named ?_
  intro A0 hA0
  refine wpAnyT_inv (fun l a w' => ∃ (b2 b4 : Bool) (x44 x46 : Value) (g4 : Nat) (css : List (List Value)), l = #[true, true, b2, true, b4, false, false, false, false, false, false, false] ∧ a = (A0.put (some 44) x44).put (some 46) x46 ∧ Hid (Bel w3 w') ∧ Hid (b2 = true → w'.ownsRow w3.heap.size 40 4 x44 nl css.flatten ∧ Css SchR 4 w' ls css) ∧ Hid (b4 = true → x46 = .slice (some ⟨g4, 0, none⟩) 1 1 ∧ Bk w' g4 40 #[.int .i64 x.kind, .int .i64 x.cap, .int .i64 x.words, .int .i64 x.ver]) ∧ (b2 = false → x44 = undef) ∧ (b4 = false → x46 = undef)) ?inv _ _ _ _ (Nat.le_of_ble_eq_true (by kernel_rfl)) ⟨false, false, undef, undef, 0, [], rfl, (by subst hA0; rfl), Lib.hid SD, Lib.hid (fun h => (by cases h)), Lib.hid (fun h => (by cases h)), fun _ => rfl, fun _ => rfl⟩
  case inv =>
    clear SD P1 P2 P3 P4
    rintro fuel l a w4 hfu ⟨b2, b4, x44, x46, g4, css, rfl, rfl, HBA, HO, HG, HU2, HU4⟩
    cases b2 with
    | true =>
      cases b4 with
      | true =>
        left
        obtain ⟨f, rfl⟩ : ∃ f, fuel = f + 7 := ⟨fuel - 7, by have : undone #[true, true, true, true, true, false, false, false, false, false, false, false] = 7 := by kernel_rfl
                                                             omega⟩
        have HO := Lib.hid (HO.out rfl)
        have HG := Lib.hid (HG.out rfl)
        obtain rfl := HG.out.1
        clear hfu HU2 HU4
        obtain ⟨A4, c4, rfl⟩ := own_slice HO.out.1
        subst hA0
        refine wpAnyT_one (i := 5) (by kernel_rfl) rfl (fun K hK => ?_)
        refine step_append_run (by rfl) _ _ 25 (by rfl) (.slice A4 nl c4) (.slice (some ⟨g4, 0, none⟩) 1 1) (by rfl) (by rfl) (fun v' w' => w'.ownsRow w3.heap.size 40 4 v' (nl + 1) (css ++ [SchD.cells x]).flatten ∧ Bel w3 w') (by
          obtain ⟨v', w', hr, ho, hg, -⟩ := app_one_any (P := Try.prog) 25 Try.underlying25 info_sch rfl (by decide) sch_one HO.out.1 HO.out.2 (fun j u hu => HG.out.2.cell j (by simpa [SchD.cells] using hu)) rfl hxw.out (by omega) (by decide) HBA.out.size
          exact ⟨v', w', hr, ho, HBA.out.grown hg (fun k hk => (HO.out.1.lt k hk).1)⟩) ?_
        rintro v5 w5 ⟨ho5, hb5⟩
        obtain ⟨A5, c5, rfl, hs5, -⟩ := own_sl (l := ls ++ [x]) ho5 (sch_css (HO.out.2.snoc (x := x) (cs := SchD.cells x) rfl hxw.out)) (by rw [List.length_append, hnl.out]; rfl)
        have S5 : Bel w3 w5 := hb5
        have HS5 := Lib.hid hs5
        clear ho5 hs5 hb5
        refine hK.out _ _ (fun _ => S5) ?_
        clear hK K
        try simp only [List.getElem_toArray, List.getElem_cons_zero, List.getElem_cons_succ, Act.put, List.setIfInBounds_toArray, List.set_cons_zero, List.set_cons_succ]
        refine wpAnyT_one (i := 6) (by kernel_rfl) rfl (fun K hK => ?_)
        go_simp
        go_at_call 9
        refine (verify_all A c n LL _ (nl + 1) c5 (ls ++ [x]) _ (HS3.out.mono FnR.mono S5) hn.out HS5.out (by rw [List.length_append, hnl.out]; rfl) m2 e2 hv2).mono ?_
        rintro en w6 ⟨rfl, hb6⟩
        have S6 : Bel w3 w6 := S5.trans hb6
        dsimp only
        refine hK.out _ _ (fun _ => S6) ?_
        clear hK K
        try simp only [List.getElem_toArray, List.getElem_cons_zero, List.getElem_cons_succ, Act.put, List.setIfInBounds_toArray, List.set_cons_zero, List.set_cons_succ]
        refine wpAnyU_take (i := 7) (v := ?v7b) rfl (by kernel_rfl) (by kernel_rfl) (by kernel_rfl) (by kernel_rfl) (fun _ _ _ h => h) ?hy7b S6 ?rest7b
        case hy7b => first | (refine Or.inl ⟨by rfl, ?_⟩; (intro w' hSw; go_simp) <;> with_reducible rfl) | (refine Or.inr ⟨by rfl, ?_⟩; with_reducible rfl)
        try simp only [List.getElem_toArray, List.getElem_cons_zero, List.getElem_cons_succ, Act.put, List.setIfInBounds_toArray, List.set_cons_zero, List.set_cons_succ]
        refine wpAnyU_take (i := 8) (v := ?v8b) rfl (by kernel_rfl) (by kernel_rfl) (by kernel_rfl) (by kernel_rfl) (fun _ _ _ h => h) ?hy8b S6 ?rest8b
        case hy8b => first | (refine Or.inl ⟨by rfl, ?_⟩; (intro w' hSw; go_simp) <;> with_reducible rfl) | (refine Or.inr ⟨by rfl, ?_⟩; with_reducible rfl)
        try simp only [List.getElem_toArray, List.getElem_cons_zero, List.getElem_cons_succ, Act.put, List.setIfInBounds_toArray, List.set_cons_zero, List.set_cons_succ]
        refine wpAnyU_take (i := 9) (v := ?v9b) rfl (by kernel_rfl) (by kernel_rfl) (by kernel_rfl) (by kernel_rfl) (fun _ _ _ h => h) ?hy9b S6 ?rest9b
        case hy9b => first | (refine Or.inl ⟨by rfl, ?_⟩; (intro w' hSw; go_simp) <;> with_reducible rfl) | (refine Or.inr ⟨by rfl, ?_⟩; with_reducible rfl)
        try simp only [List.getElem_toArray, List.getElem_cons_zero, List.getElem_cons_succ, Act.put, List.setIfInBounds_toArray, List.set_cons_zero, List.set_cons_succ]
        refine wpAnyU_take (i := 10) (v := ?v10b) rfl (by kernel_rfl) (by kernel_rfl) (by kernel_rfl) (by kernel_rfl) (fun _ _ _ h => h) ?hy10b S6 ?rest10b
        case hy10b => first | (refine Or.inl ⟨by rfl, ?_⟩; (intro w' hSw; go_simp) <;> with_reducible rfl) | (refine Or.inr ⟨by rfl, ?_⟩; with_reducible rfl)
        try simp only [List.getElem_toArray, List.getElem_cons_zero, List.getElem_cons_succ, Act.put, List.setIfInBounds_toArray, List.set_cons_zero, List.set_cons_succ]
        refine wpAnyU_take (i := 11) (v := ?v11b) rfl (by kernel_rfl) (by kernel_rfl) (by kernel_rfl) (by kernel_rfl) (fun _ _ _ h => h) ?hy11b S6 ?rest11b
        case hy11b => first | (refine Or.inl ⟨by rfl, ?_⟩; (intro w' hSw; go_simp) <;> with_reducible rfl) | (refine Or.inr ⟨by rfl, ?_⟩; with_reducible rfl)
        try simp only [List.getElem_toArray, List.getElem_cons_zero, List.getElem_cons_succ, Act.put, List.setIfInBounds_toArray, List.set_cons_zero, List.set_cons_succ]
        refine wpAnyT_done (by kernel_rfl) ?_ _
        refine NoPanic.normal ?_
        clear HO HG HBA HS5 S5 hb6 P0 hxw K13
        have HB := Lib.hid (HBw.out.trans S6)
        have HB6 := Lib.hid S6
        clear S6
        have q0 := (K03.out.bel HB6.out).cell 0 (v := .slice A n c) rfl
        by_cases he1 : e1 = 0
        rotate_left
        · have z1 : (e1 != 0) = true := by simpa using he1
          have z2 : m1 = 0 := verify_fail hv1.out he1
          subst z2
          clear he1
          go_wp2_with fail
          go_ret
          exact ⟨by first | rfl | simp, HB.out⟩
        subst he1
        rcases verify_more (x := x) hv1.out (by rw [hnl.out]; omega) with h2 | h2
        · obtain ⟨rfl, rfl⟩ : m2 = 0 ∧ e2 = 1 := by have := hv2.out.symm.trans h2; simpa using this
          clear h2
          go_wp2_with fail
          go_ret
          exact ⟨by first | rfl | simp, HB.out⟩
        obtain ⟨rfl, rfl⟩ : m2 = m1 ∧ e2 = 0 := by have := hv2.out.symm.trans h2; simpa using this
        clear h2
        have VF := Lib.hid (verify_facts hv1.out)
        have hpm := Lib.hid VF.out.1
        have hn8 : n ≤ 8 := by
          have := hpm.out
          unfold progMay at this
          simp only [Bool.and_eq_true, decide_eq_true_iff] at this
          rw [← hn.out]
          exact this.1.1.2
        obtain ⟨b, o, hA⟩ := HS3.out.addr VF.out.2.1
        subst hA
        clear hv2
        go_wp2_with fail
        go_loopw [13] (fun iv wr => ∃ i : Nat, iv = .int .i64 i ∧ i ≤ n ∧ Hid (Bel w6 wr)) (fun iv _ => n - (intOf iv).toNat)
        case atStart => exact ⟨0, rfl, Nat.zero_le _, Lib.hid (Bel.refl _)⟩
        case round =>
          clear q0
          obtain ⟨i, rfl, hin, HBr⟩ := hrel
          have HB7 := Lib.hid (HB6.out.trans HBr.out)
          have HBZ := Lib.hid (HB.out.trans HBr.out)
          have q0 := (K03.out.bel HB7.out).cell 0 (v := .slice (some ⟨b, o, none⟩) n c) rfl
          by_cases hie : i = n
          · subst hie
            go_wp2_with fail
            go_ret
            exact ⟨by first | rfl | simp, HBZ.out⟩
          · have hi1 : i < n := by omega
            have hi2 : (i : Int) < n := by omega
            have i0 : 0 ≤ (i : Int) := by omega
            have ei : IntKind.i64.wrap ((i : Int) + 1) = (i : Int) + 1 := wrap_i64 (by omega) (by omega)
            have hiL : i < LL.length := by rw [hn.out]; exact hi1
            obtain ⟨hins, F, hF, hU⟩ := VF.out.2.2.2.2.2 i hiL
            have SF := Lib.hid (shapes_facts hpm.out hiL hU)
            obtain ⟨l, hl⟩ : ∃ l, Hid (codeOf LL i = l) := ⟨_, Lib.hid rfl⟩
            rw [hl.out] at SF
            have CM : Hid (crsMay l = true) := Lib.hid (by rw [← hl.out]; exact prog_ok' hpm.out hiL)
            have HC7 := HS3.out.mono FnR.mono HB7.out
            obtain ⟨Al, cl, -, d1, hsl⟩ := fn_cells HC7 i hiL
            rw [← codeOf_get hiL, hl.out] at d1 hsl
            obtain ⟨ml, hml⟩ : ∃ ml, Hid (l.length = ml) := ⟨_, Lib.hid rfl⟩
            rw [hml.out] at d1
            have HSL := Lib.hid hsl
            clear hsl hU HC7 hie
            go_wp2_with fail
            refine (shapes_all (some ⟨b, o, none⟩) c n LL i Q nl cQ ls _ (HS3.out.mono FnR.mono HB7.out) hn.out (HL3.out.mono SchR.mono HB7.out) hnl.out F (Lib.hid hF)).mono ?_
            rintro e w8 ⟨⟨Bi, Bs, len, rfl, hlen, hBi, hBs⟩, hb8⟩
            obtain rfl : ml = len := by rw [← hml.out, ← hlen, ← SF.out.1]
            have hl0 : 0 < ml := by rw [← hml.out]; exact SF.out.2.1
            have hl1 : (0 : Int) < ml := by omega
            have HB8 := Lib.hid (HB7.out.trans hb8)
            have HBs := Lib.hid hBs
            have q0 := (K03.out.bel HB8.out).cell 0 (v := .slice (some ⟨b, o, none⟩) n c) rfl
            have d1' := hb8.cell d1
            have y0 : w8.cell? ⟨Bs, 0, none⟩ = some (.bool true) := by
              have := hBs.cell 0 (insB_get F (by rw [hlen]; exact hl0))
              have e := SF.out.2.2.1
              rw [List.getD_eq_getElem?_getD, List.getElem?_eq_getElem (by rw [hlen]; exact hl0)] at e
              rw [this]
              simpa using e
            clear d1 hBi hBs hF
            go_wp2_with fail
            obtain ⟨R, hR⟩ : ∃ R, Hid (reachR l = R) := ⟨_, Lib.hid rfl⟩
            refine (Reach_any Al cl ml l R _ (HSL.out.mono InstR.mono hb8) hml hR).mono ?_
            rintro e w9 ⟨A2, cap2, rfl, hsR, hb9⟩
            have hRl : R.length = ml := by rw [← hR.out]; unfold reachR; rw [if_pos CM.out, reach_length, hml.out]
            rw [hRl]
            obtain ⟨b2, o2, rfl, hcR⟩ := Sl.bool_cell hsR (by rw [hRl]; exact hl0)
            rw [hRl] at hcR
            have HCR := Lib.hid hcR
            have HBs9 := Lib.hid (HBs.out.bel hb9)
            have HB9 := Lib.hid (HB8.out.trans hb9)
            have HBY := Lib.hid (HBZ.out.trans (hb8.trans hb9))
            have HBL := Lib.hid (HBr.out.trans (hb8.trans hb9))
            have HSL9 := Lib.hid (HSL.out.mono InstR.mono (hb8.trans hb9))
            have d1'' := Lib.hid (hb9.cell d1')
            clear hb8 hb9 hsR hcR d1' y0 HBs HSL HB8 q0
            go_wp2_with fail
            go_loopw [18] (fun kv wr => ∃ k : Nat, kv = .int .i64 k ∧ k ≤ ml ∧ Hid (Bel w9 wr)) (fun kv _ => ml - (intOf kv).toNat)
            case atStart => exact ⟨0, rfl, Nat.zero_le _, Lib.hid (Bel.refl _)⟩
            case round =>
              clear HBr
              obtain ⟨k, rfl, hkm, HBr⟩ := hrel
              by_cases hke : k = ml
              · subst hke
                go_wp2_with fail
                go_roundw
                case rel => exact ⟨i + 1, by simp, by omega, Lib.hid (HBL.out.trans HBr.out)⟩
                case measure => simp [intOf]; omega
              · have hk1 : k < ml := by omega
                have hk2 : (k : Int) < ml := by omega
                have k0 : 0 ≤ (k : Int) := by omega
                have ek : IntKind.i64.wrap ((k : Int) + 1) = (k : Int) + 1 := wrap_i64 (by have := CM.out; omega) (by have := (crsMay_facts CM.out).2.1; have := hml.out; omega)
                have hkl : k < l.length := by rw [hml.out]; exact hk1
                have hkF : k < F.length := by rw [hlen]; exact hk1
                have q0 := (K03.out.bel (HB9.out.trans HBr.out)).cell 0 (v := .slice (some ⟨b, o, none⟩) n c) rfl
                have d1 := HBr.out.cell d1''.out
                have hsr := HSL9.out.mono InstR.mono HBr.out
                obtain ⟨bl, ol, rfl⟩ := hsr.addr (by omega)
                have hic := inst_cells hsr k hkl
                have hxw : (l[k]).Wf := by
                  obtain ⟨_, _, _, _, _, ⟨-, hxw⟩, -⟩ := hsr.get k hkl
                  exact hxw
                obtain ⟨y, HY⟩ : ∃ y, Hid (l[k]! = y) := ⟨_, Lib.hid rfl⟩
                have hy2 : l[k] = y := by rw [← getElem!_pos l k hkl]; exact HY.out
                rw [hy2] at hxw
                rw [HY.out] at hic
                have him := hxw.imm
                obtain ⟨op, fn, dst, src, reg, off, imm⟩ := y
                have i0' : 0 ≤ imm := him.lo
                have i1' : imm < 4294967296 := him.hi
                have em : IntKind.i64.wrap imm = imm := wrap_i64 (by omega) (by omega)
                have c0 := hic 0 (.int .i64 op) rfl
                have c1 := hic 1 (.int .i64 fn) rfl
                have c2 := hic 2 (.int .i64 dst) rfl
                have c3 := hic 3 (.int .i64 src) rfl
                have c4 := hic 4 (.bool reg) rfl
                have c5 := hic 5 (.int .i64 off) rfl
                have c6 := hic 6 (.int .u32 imm) rfl
                rw [Nat.add_zero] at c0
                have yk := HBr.out.cell (HBs9.out.cell k (insB_get F hkF))
                have HBn := Lib.hid (HBr.out.alloc (.cells #[.int .i64 op, .int .i64 fn, .int .i64 dst, .int .i64 src, .bool reg, .int .i64 off, .int .u32 imm] 32))
                obtain ⟨fk, hfk⟩ : ∃ fk, F[k].isSome = fk := ⟨_, rfl⟩
                rw [hfk] at yk
                clear hic hsr hxw him hke
                cases fk
                · have ya := fun o => ((Bel.refl wr).alloc o).cell yk
                  clear hfk yk
                  go_wp2_with fail
                  go_roundw
                  case rel => exact ⟨k + 1, by simp, by omega, HBn⟩
                  case measure => simp [intOf]; omega
                · have SK := SF.out.2.2.2 k hkF (by rw [List.getD_eq_getElem?_getD, List.getElem?_eq_getElem hkF]; exact hfk)
                  rw [HY.out] at SK
                  dsimp only at SK
                  have rk := HBr.out.cell (HCR.out k hk1)
                  have rt : R.getD k false = true := by rw [← hR.out]; unfold reachR; rw [if_pos CM.out]; exact SK.1
                  rw [rt] at rk
                  obtain ⟨-, s6, s5⟩ := SK
                  rw [hn.out] at s6
                  have ER : IntKind.i64.wrap (ml : Int) = ml := wrap_i64 (by omega) (by have := (crsMay_facts CM.out).2.1; have := hml.out; omega)
                  have ya := fun o => ((Bel.refl wr).alloc o).cell yk
                  have ra := fun o => ((Bel.refl wr).alloc o).cell rk
                  have qa := fun o => ((Bel.refl wr).alloc o).cell q0
                  clear hfk rt ER yk rk
                  by_cases h6 : op = 6
                  · subst h6
                    obtain ⟨u1, u2⟩ := s6 rfl
                    have u3 : decide ((n : Int) ≤ imm) = false := decide_eq_false (by omega)
                    have u4 : decide (imm ≤ (i : Int)) = false := decide_eq_false (by omega)
                    clear s6 s5
                    go_wp2_with fail
                    go_roundw
                    case rel => exact ⟨k + 1, by simp, by omega, HBn⟩
                    case measure => simp [intOf]; omega
                  · have h6' : (op == 6) = false := by simpa using h6
                    by_cases h5 : op = 5
                    · subst h5
                      have u1 := s5 rfl
                      have u3 : decide (5 < imm) = false := decide_eq_false (by omega)
                      clear s6 s5 h6 h6'
                      go_wp2_with fail
                      go_roundw
                      case rel => exact ⟨k + 1, by simp, by omega, HBn⟩
                      case measure => simp [intOf]; omega
                    · have h5' : (op == 5) = false := by simpa using h5
                      clear s6 s5 h5 h6
                      go_wp2_with fail
                      go_roundw
                      case rel => exact ⟨k + 1, by simp, by omega, HBn⟩
                      case measure => simp [intOf]; omega
      | false =>
        right
        refine ⟨ready_ne 4 (by kernel_rfl), fun i hi => ?_⟩
        have hlt : i < 12 := ready_lt hi
        rcases (show i = 0 ∨ i = 1 ∨ i = 2 ∨ i = 3 ∨ i = 4 ∨ i = 5 ∨ i = 6 ∨ i = 7 ∨ i = 8 ∨ i = 9 ∨ i = 10 ∨ i = 11 by omega) with rfl | rfl | rfl | rfl | rfl | rfl | rfl | rfl | rfl | rfl | rfl | rfl
        · exact (not_ready hi (by kernel_rfl)).elim
        · exact (not_ready hi (by kernel_rfl)).elim
        · exact (not_ready hi (by kernel_rfl)).elim
        · exact (not_ready hi (by kernel_rfl)).elim
        · refine wpOp_shut rfl (fun K hK => ?_)
          subst hA0
          obtain rfl := HU4 rfl
          go_simp
          have HBB := (Bel.refl w4).alloc (.cells #[.int .i64 x.kind, .int .i64 x.cap, .int .i64 x.words, .int .i64 x.ver] 40)
          refine hK.out _ _ ⟨fun _ => HBA.out.trans HBB, true, true, x44, .slice (some ⟨w4.heap.size, 0, none⟩) 1 1, w4.heap.size, css, rfl, rfl, Lib.hid (HBA.out.trans HBB), Lib.hid (fun h => ⟨own_belV (HO.out h).1 HBB, (HO.out h).2.mono SchR.mono HBB⟩), Lib.hid (fun _ => ⟨rfl, Bk.new w4 40 #[.int .i64 x.kind, .int .i64 x.cap, .int .i64 x.words, .int .i64 x.ver]⟩), HU2, fun h => (by cases h)⟩
        · have h : false = true := ready_dep hi 4 (by kernel_rfl)
          cases h
        · have h : false = true := ready_dep hi 5 (by kernel_rfl)
          cases h
        · have h : false = true := ready_dep hi 6 (by kernel_rfl)
          cases h
        · have h : false = true := ready_dep hi 7 (by kernel_rfl)
          cases h
        · have h : false = true := ready_dep hi 7 (by kernel_rfl)
          cases h
        · have h : false = true := ready_dep hi 8 (by kernel_rfl)
          cases h
        · have h : false = true := ready_dep hi 10 (by kernel_rfl)
          cases h
    | false =>
      right
      refine ⟨ready_ne 2 (by kernel_rfl), fun i hi => ?_⟩
      have hlt : i < 12 := ready_lt hi
      rcases (show i = 0 ∨ i = 1 ∨ i = 2 ∨ i = 3 ∨ i = 4 ∨ i = 5 ∨ i = 6 ∨ i = 7 ∨ i = 8 ∨ i = 9 ∨ i = 10 ∨ i = 11 by omega) with rfl | rfl | rfl | rfl | rfl | rfl | rfl | rfl | rfl | rfl | rfl | rfl
      · exact (not_ready hi (by kernel_rfl)).elim
      · exact (not_ready hi (by kernel_rfl)).elim
      · refine wpOp_shut rfl (fun K hK => ?_)
        subst hA0
        obtain rfl := HU2 rfl
        refine step_append_run (by rfl) _ _ 25 (by rfl) (.slice none 0 0) (.slice Q nl cQ) (by rfl) (by rfl) (fun v' w' => ∃ css, w'.ownsRow w3.heap.size 40 4 v' nl css.flatten ∧ Css SchR 4 w4 ls css ∧ Bel w4 w') (by
          obtain ⟨v', w', css, hr, ho, hc, hb, -⟩ := app_nil_any (P := Try.prog) 25 Try.underlying25 info_sch rfl (by decide) sch_one (HL3.out.mono SchR.mono HBA.out) hnl.out (by omega) (by decide) HBA.out.size
          exact ⟨v', w', hr, css, ho, hc, hb⟩) ?_
        rintro v5 w5 ⟨css', ho5, hc5, hb5⟩
        refine hK.out _ _ ⟨fun _ => HBA.out.trans hb5, true, b4, v5, x46, g4, css', rfl, rfl, Lib.hid (HBA.out.trans hb5), Lib.hid (fun _ => ⟨ho5, hc5.mono SchR.mono hb5⟩), Lib.hid (fun h => ⟨(HG.out h).1, (HG.out h).2.bel hb5⟩), fun h => (by cases h), HU4⟩
      · exact (not_ready hi (by kernel_rfl)).elim
      · obtain rfl : b4 = false := by simpa using ready_new hi
        refine wpOp_shut rfl (fun K hK => ?_)
        subst hA0
        obtain rfl := HU4 rfl
        obtain rfl := HU2 rfl
        go_simp
        have HBB := (Bel.refl w4).alloc (.cells #[.int .i64 x.kind, .int .i64 x.cap, .int .i64 x.words, .int .i64 x.ver] 40)
        refine hK.out _ _ ⟨fun _ => HBA.out.trans HBB, false, true, undef, .slice (some ⟨w4.heap.size, 0, none⟩) 1 1, w4.heap.size, css, rfl, rfl, Lib.hid (HBA.out.trans HBB), Lib.hid (fun h => ⟨own_belV (HO.out h).1 HBB, (HO.out h).2.mono SchR.mono HBB⟩), Lib.hid (fun _ => ⟨rfl, Bk.new w4 40 #[.int .i64 x.kind, .int .i64 x.cap, .int .i64 x.words, .int .i64 x.ver]⟩), fun _ => rfl, fun h => (by cases h)⟩
      · have h : false = true := ready_dep hi 2 (by kernel_rfl)
        cases h
      · have h : false = true := ready_dep hi 5 (by kernel_rfl)
        cases h
      · have h : false = true := ready_dep hi 6 (by kernel_rfl)
        cases h
      · have h : false = true := ready_dep hi 7 (by kernel_rfl)
        cases h
      · have h : false = true := ready_dep hi 7 (by kernel_rfl)
        cases h
      · have h : false = true := ready_dep hi 8 (by kernel_rfl)
        cases h
      · have h : false = true := ready_dep hi 10 (by kernel_rfl)
        cases h
end Go.Proofs.Ytebdnobgdimdoaa
