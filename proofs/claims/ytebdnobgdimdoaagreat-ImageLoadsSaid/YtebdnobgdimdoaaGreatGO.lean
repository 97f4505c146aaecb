/- The map of functions in image.code: two entries, laid and looked up. The document's 'Code', 'May' and 'Few' of a program (cut out of the texts of chapter 8). Two small words, given elsewhere in this seat. Words, as chapter 14 calls for them. image.code: its closures, and what it computes. -/
import Derived.Test.YtebdnobgdimdoaaGreatProg
import Derived.Test.YtebdnobgdimdoaaGreatGA
import Derived.MapKept
import Derived.Carry
import Derived.KernelRfl
import Derived.Test.YtebdnobgdimdoaaGreatGC
import Derived.Test.YtebdnobgdimdoaaGreatZRefMay
import Derived.RangeFuncBox
import Derived.Test.YtebdnobgdimdoaaGreatGB
import Derived.Test.YtebdnobgdimdoaaGreatGN
set_option linter.unusedVariables false
set_option linter.unusedSimpArgs false
namespace Go.Proofs.YtebdnobgdimdoaaGreat
open Go.RowKit Go.MapKept
/-- The entries of the map. -/
def ents1 (f : Value) : Array MapEntry := #[{ key := .int .i64 1, val := f, born := 0 }]
def ents2 (f g : Value) : Array MapEntry := #[{ key := .int .i64 1, val := f, born := 0 }, { key := .int .i64 6, val := g, born := 1 }]
theorem alloc_set (w : World) (o o' : Obj) : ({ w.alloc o with heap := (w.alloc o).heap.setIfInBounds w.heap.size o' } : World) = w.alloc o' := by
  have e : (w.heap.push o).setIfInBounds w.heap.size o' = w.heap.push o' := by
    apply Array.toList_inj.1
    rw [Array.toList_setIfInBounds, Array.toList_push, Array.toList_push, ← Array.length_toList, List.set_append_right _ _ (Nat.le_refl _), Nat.sub_self]
    rfl
  show ({ w.alloc o with heap := (w.heap.push o).setIfInBounds w.heap.size o' } : World) = _
  rw [e]
  rfl
theorem key_int (a : Int) : IsKey (.int .i64) (.int .i64 a) := by simp [IsKey]
theorem checkKey_int (b : Bool) (a : Int) (w : World) : (Instr.checkKey b 10000 3 (.int .i64 a)).run Tryz.prog w = .ok () w := run_checkKey Tryz.underlying3 (key_int a) b 9999
theorem insert_first (w : World) (f : Value) : (Instr.mapUpdate 181 (.map (some w.heap.size)) (.int .i64 1) f).run Tryz.prog (w.alloc (.map #[] 0)) = .ok () (w.alloc (.map (ents1 f) 1)) := by
  have hb : (w.alloc (.map #[] 0)).heap[w.heap.size]? = some (.map #[] 0) := (heap_alloc w _).1
  have hf : Instr.findNow (.int .i64) (.int .i64 1) (#[] : Array MapEntry).toList 0 = some none := rfl
  unfold Instr.mapUpdate
  simp only [Sem.run_bind, Sem.run_pure, Result.andThen_ok, run_underlying Tryz.underlying181, Go.MapKept.run_getObj_map hb, checkKey_int, run_findKey Tryz.underlying3 hf, run_setObj_map _ hb, alloc_set]
  rfl
theorem insert_second (w : World) (f g : Value) : (Instr.mapUpdate 181 (.map (some w.heap.size)) (.int .i64 6) g).run Tryz.prog (w.alloc (.map (ents1 f) 1)) = .ok () (w.alloc (.map (ents2 f g) 2)) := by
  have hb : (w.alloc (.map (ents1 f) 1)).heap[w.heap.size]? = some (.map (ents1 f) 1) := (heap_alloc w _).1
  have hf : Instr.findNow (.int .i64) (.int .i64 6) (ents1 f).toList 0 = some none := rfl
  unfold Instr.mapUpdate
  simp only [Sem.run_bind, Sem.run_pure, Result.andThen_ok, run_underlying Tryz.underlying181, Go.MapKept.run_getObj_map hb, checkKey_int, run_findKey Tryz.underlying3 hf, run_setObj_map _ hb, alloc_set]
  rfl
theorem zero_func (w : World) : (zeroValue 180).run Tryz.prog w = .ok .nilFunc w := by kernel_rfl
theorem look_some {w : World} {b : Nat} {f g : Value} (hb : w.heap[b]? = some (.map (ents2 f g) 2)) (a : Int) (r : Nat × Value) (hr : Instr.findNow (.int .i64) (.int .i64 a) (ents2 f g).toList 0 = some (some r)) : (Instr.lookup 181 (.map (some b)) (.int .i64 a) true).run Tryz.prog w = .ok (.tuple #[r.2, .bool true]) w := by
  obtain ⟨i, v⟩ := r
  unfold Instr.lookup
  simp only [Sem.run_bind, Sem.run_pure, Result.andThen_ok, run_underlying Tryz.underlying181, Go.MapKept.run_getObj_map hb, checkKey_int, run_findKey Tryz.underlying3 hr]
  rfl
theorem look_jump {w : World} {b : Nat} {f g : Value} (hb : w.heap[b]? = some (.map (ents2 f g) 2)) : (Instr.lookup 181 (.map (some b)) (.int .i64 1) true).run Tryz.prog w = .ok (.tuple #[f, .bool true]) w :=
  look_some hb 1 (0, f) rfl
theorem look_call {w : World} {b : Nat} {f g : Value} (hb : w.heap[b]? = some (.map (ents2 f g) 2)) : (Instr.lookup 181 (.map (some b)) (.int .i64 6) true).run Tryz.prog w = .ok (.tuple #[g, .bool true]) w :=
  look_some hb 6 (1, g) rfl
theorem look_none {w : World} {b : Nat} {f g : Value} (hb : w.heap[b]? = some (.map (ents2 f g) 2)) {a : Int} (h1 : a ≠ 1) (h6 : a ≠ 6) : (Instr.lookup 181 (.map (some b)) (.int .i64 a) true).run Tryz.prog w = .ok (.tuple #[.nilFunc, .bool false]) w := by
  have hf : Instr.findNow (.int .i64) (.int .i64 a) (ents2 f g).toList 0 = some none := by
    have e1 : (a == 1) = false := by simpa using h1
    have e6 : (a == 6) = false := by simpa using h6
    simp [ents2, Instr.findNow, Instr.sameNow, e1, e6]
  unfold Instr.lookup
  simp only [Sem.run_bind, Sem.run_pure, Result.andThen_ok, run_underlying Tryz.underlying181, Go.MapKept.run_getObj_map hb, checkKey_int, run_findKey Tryz.underlying3 hf, zero_func]
  rfl
end Go.Proofs.YtebdnobgdimdoaaGreat
set_option linter.unusedVariables false
set_option linter.unusedSimpArgs false
namespace Go.Proofs.YtebdnobgdimdoaaGreat
open Go.RowKit
theorem cell_fresh (w : World) (a : Array Value) (t : TypeId) (k : Nat) (v : Value) (h : a[k]? = some v) : (w.alloc (.cells a t)).cell? ⟨w.heap.size, k, none⟩ = some v := by
  have e := World.alloc_heap_new w (.cells a t)
  unfold World.cell?
  simp only
  rw [e]
  exact h
theorem crsMay_all {l : List InstD} {n : Nat} (hn : l.length = n) (h : ∀ j, j < n → (l[j]!).okB = true) : crsMay l = decide (0 < n ∧ n ≤ 64) := by
  unfold crsMay
  rw [hn]
  have : l.all InstD.okB = true := by
    rw [List.all_eq_true]
    intro x hx
    obtain ⟨j, hj, rfl⟩ := List.mem_iff_getElem.1 hx
    have := h j (by omega)
    rwa [getElem!_pos l j hj] at this
  rw [this, Bool.and_true]
theorem crsMay_not {l : List InstD} {j : Nat} (hj : j < l.length) (h : (l[j]!).okB = false) : crsMay l = false := by
  unfold crsMay
  have : l.all InstD.okB = false := by
    rw [Bool.eq_false_iff]
    intro hh
    rw [List.all_eq_true] at hh
    have := hh _ (List.getElem_mem hj)
    rw [getElem!_pos l j hj] at h
    rw [h] at this
    cases this
  rw [this, Bool.and_false]
set_option maxHeartbeats 4000000 in
set_option maxRecDepth 100000 in
theorem refCode_any (gg : Int) (A : Option Addr) (c n : Nat) (l : List InstD) (r : Bool) (w : World) (h : Sl InstR 7 w A c l) (hn : Hid (l.length = n)) (hr : Hid (crsMay l = r)) :
    Calls Tryz.prog 113 #[.agg #[.int .i64 gg, .slice A n c]] w fun e w' => e = .returned (.bool r) ∧ Bel w w' := by
  have HS0 := Lib.hid h
  have hbig : n ≤ 9223372036854775807 := by rw [← hn.out]; have := h.le; have := h.big; simp only [maxLen] at this; omega
  have HBIG := Lib.hid hbig
  clear h hbig
  have HB1 := Bel.refl (w.alloc (.cells #[.int .i64 gg, .slice A n c] 73))
  have hq1 : (w.alloc (.cells #[.int .i64 gg, .slice A n c] 73)).cell? ⟨w.heap.size, 1, none⟩ = some (.slice A n c) := cell_fresh w _ _ 1 _ rfl
  have HQ1 := Lib.hid hq1
  have HBa := Lib.hid ((Bel.refl w).alloc (.cells #[.int .i64 gg, .slice A n c] 73))
  go_enter Tryz.func113, Tryz.ntmps113
  go_wp2_with fail
  generalize w.alloc (.cells #[.int .i64 gg, .slice A n c] 73) = W1 at *
  generalize w.heap.size = g at *
  clear hq1
  go_loopw [3] (fun v wr => ∃ k : Nat, v = .int .i64 k ∧ k ≤ n ∧ Hid (∀ j, j < k → (l[j]!).okB = true) ∧ Bel W1 wr) (fun v _ => n - (intOf v).toNat)
  case atStart => exact ⟨0, rfl, Nat.zero_le _, Lib.hid (fun j hj => absurd hj (Nat.not_lt_zero _)), Bel.refl _⟩
  case round =>
    obtain ⟨k, rfl, hk, HE, hbk⟩ := hrel
    have q1 := hbk.cell HQ1.out
    have HBw := HBa.out.trans hbk
    by_cases hkn : k = n
    · subst hkn
      have HR := Lib.hid ((crsMay_all hn.out HE.out).symm.trans hr.out)
      by_cases k0 : 0 < k
      · by_cases k1 : k ≤ 64
        · have k0' : (1 : Int) ≤ k := by omega
          have k1' : (k : Int) ≤ 64 := by omega
          go_wp2_with fail
          go_ret
          rw [← HR.out, decide_eq_true ⟨k0, k1⟩]
          exact ⟨by simp, HBw⟩
        · have k0' : (1 : Int) ≤ k := by omega
          have k1' : ¬ (k : Int) ≤ 64 := by omega
          go_wp2_with fail
          go_ret
          rw [← HR.out, decide_eq_false (fun h => k1 h.2)]
          exact ⟨by simp, HBw⟩
      · have k0' : ¬ (1 : Int) ≤ k := by omega
        go_wp2_with fail
        go_ret
        rw [← HR.out, decide_eq_false (fun h => k0 h.1)]
        exact ⟨by simp, HBw⟩
    · have hk1 : k < n := by omega
      have hk2 : (k : Int) < n := by omega
      have k0 : 0 ≤ (k : Int) := by omega
      have HEK : Hid (IntKind.i64.wrap ((k : Int) + 1) = (k : Int) + 1) := Lib.hid (wrap_i64 (by omega) (by have := HBIG.out; omega))
      have HKL : Hid (k < l.length) := Lib.hid (by rw [hn.out]; exact hk1)
      have HSr := HS0.out.mono InstR.mono HBw
      obtain ⟨b0, o0, rfl⟩ := HSr.addr (by rw [hn.out]; omega)
      have hcells := inst_cells HSr k HKL.out
      obtain ⟨o, ho⟩ : ∃ o, Hid ((l[k]!).okB = o) := ⟨_, Lib.hid rfl⟩
      have ho2 := ho.out
      generalize l[k]! = I at hcells ho2
      obtain ⟨op, fn, dst, src, reg, off, imm⟩ := I
      have d0 := hcells 0 _ rfl
      have d1 := hcells 1 _ rfl
      have d2 := hcells 2 _ rfl
      have d3 := hcells 3 _ rfl
      have d4 := hcells 4 _ rfl
      have d5 := hcells 5 _ rfl
      have d6 := hcells 6 _ rfl
      rw [Nat.add_zero] at d0
      have HO : Hid (mayB op fn dst src reg off imm = o) := Lib.hid ho2
      clear hcells ho2 HSr hkn
      go_wp2_with fail
      refine (refmay_any op fn dst src reg off imm _).mono ?_
      rw [HO.out]
      rintro e w2 ⟨rfl, hb⟩
      have HBk := Lib.hid (hbk.trans hb)
      have HBw := HBw.trans hb
      clear hb q1 d0 d1 d2 d3 d4 d5 d6
      cases o
      · have HR : Hid (r = false) := Lib.hid (by rw [← hr.out]; exact crsMay_not HKL.out ho.out)
        go_wp2_with fail
        go_ret
        rw [HR.out]
        exact ⟨rfl, HBw⟩
      · have ek := HEK.out
        go_wp2
        go_roundw
        case rel => exact ⟨k + 1, by simp, by omega, Lib.hid (fun j hj => by
          by_cases e : j = k
          · subst e; exact ho.out
          · exact HE.out j (by omega)), HBk.out⟩
        case measure => simp [intOf]; omega
def fewB (L : List FnD) : Bool := decide (L.length ≤ 12) && L.all fun f => decide (f.code.length ≤ 80)
theorem fewB_not {L : List FnD} {j : Nat} (hj : j < L.length) (h : ¬ (L[j]).code.length ≤ 80) : fewB L = false := by
  unfold fewB
  rw [Bool.and_eq_false_iff]
  refine .inr (Bool.eq_false_iff.2 fun hh => ?_)
  rw [List.all_eq_true] at hh
  exact h (of_decide_eq_true (hh _ (List.getElem_mem hj)))
theorem fewB_all {L : List FnD} (h0 : L.length ≤ 12) (h : ∀ j (hj : j < L.length), (L[j]).code.length ≤ 80) : fewB L = true := by
  unfold fewB
  rw [decide_eq_true h0, Bool.true_and, List.all_eq_true]
  intro f hf
  obtain ⟨j, hj, rfl⟩ := List.mem_iff_getElem.1 hf
  exact decide_eq_true (h j hj)
set_option maxHeartbeats 4000000 in
set_option maxRecDepth 100000 in
theorem refFew_any (A : Option Addr) (c n : Nat) (L : List FnD) (r : Bool) (w : World) (h : Sl FnR 2 w A c L) (hn : Hid (L.length = n)) (hr : Hid (fewB L = r)) :
    Calls Tryz.prog 9 #[.agg #[.slice A n c]] w fun e w' => e = .returned (.bool r) ∧ Bel w w' := by
  have HS0 := Lib.hid h
  have HBIG : Hid (n ≤ 9223372036854775807) := Lib.hid (by rw [← hn.out]; have := h.le; have := h.big; simp only [maxLen] at this; omega)
  clear h
  have hq0 : (w.alloc (.cells #[.slice A n c] 24)).cell? ⟨w.heap.size, 0, none⟩ = some (.slice A n c) := cell_fresh w _ _ 0 _ rfl
  have HQ0 := Lib.hid hq0
  have HBa := Lib.hid ((Bel.refl w).alloc (.cells #[.slice A n c] 24))
  by_cases h12 : n ≤ 12
  · have h12' : (n : Int) ≤ 12 := by omega
    go_enter Tryz.func9, Tryz.ntmps9
    go_wp2_with fail
    generalize w.alloc (.cells #[.slice A n c] 24) = W1 at *
    generalize w.heap.size = g at *
    clear hq0
    go_loopw [3, 4] (fun fv v wr => ∃ (k : Nat) (f : Bool), v = .int .i64 k ∧ fv = .bool f ∧ k ≤ n ∧ Hid (f = true → ∀ j (hj : j < L.length), j < k → (L[j]).code.length ≤ 80) ∧ Hid (f = false → r = false) ∧ wr = W1) (fun _ v _ => n - (intOf v).toNat)
    case atStart => exact ⟨0, true, rfl, by simp, Nat.zero_le _, Lib.hid (fun _ j hj hk => absurd hk (Nat.not_lt_zero _)), Lib.hid (fun h => by cases h), rfl⟩
    case round =>
      obtain ⟨k, f, rfl, rfl, hk, HT, HF, rfl⟩ := hrel
      have q0 := HQ0.out
      cases f
      · have HR := Lib.hid (HF.out rfl)
        rw [HR.out]
        by_cases hkn : (k : Int) < n
        · go_wp2_with fail
          go_ret
          exact ⟨by rw [HR.out]; simp, HBa.out⟩
        · go_wp2_with fail
          go_ret
          exact ⟨by rw [HR.out]; simp, HBa.out⟩
      · by_cases hkn : k = n
        · subst hkn
          have HR : Hid (r = true) := Lib.hid (by rw [← hr.out]; exact fewB_all (by rw [hn.out]; exact h12) (fun j hj => HT.out rfl j hj (by rw [← hn.out]; exact hj)))
          go_wp2_with fail
          go_ret
          rw [HR.out]
          exact ⟨by simp, HBa.out⟩
        · have hk1 : k < n := by omega
          have hk2 : (k : Int) < n := by omega
          have k0 : 0 ≤ (k : Int) := by omega
          have hkl : k < L.length := by rw [hn.out]; exact hk1
          have ek : IntKind.i64.wrap ((k : Int) + 1) = (k : Int) + 1 := wrap_i64 (by omega) (by omega)
          obtain ⟨b, o, rfl⟩ := HS0.out.addr (by rw [hn.out]; omega)
          obtain ⟨A', c', -, d1, -⟩ := fn_cells (HS0.out.mono FnR.mono HBa.out) k hkl
          obtain ⟨m, hm⟩ : ∃ m, Hid ((L[k]).code.length = m) := ⟨_, Lib.hid rfl⟩
          rw [hm.out] at d1
          have HKL := Lib.hid hkl
          clear hkn
          by_cases m80 : m ≤ 80
          · have m80' : (m : Int) ≤ 80 := by omega
            have HT' : Hid (true = true → ∀ j (hj : j < L.length), j < k + 1 → (L[j]).code.length ≤ 80) := Lib.hid (fun _ j hj hk => by
              by_cases e : j = k
              · subst e; rw [hm.out]; exact m80
              · exact HT.out rfl j hj (by omega))
            go_wp2
            go_roundw
            case rel => exact ⟨k + 1, true, by simp, by simp, by omega, HT', Lib.hid (fun h => by cases h), by first | rfl | trivial⟩
            case measure => simp [intOf]; omega
          · have m80' : ¬ (m : Int) ≤ 80 := by omega
            have HF' : Hid (false = false → r = false) := Lib.hid (fun _ => by rw [← hr.out]; exact fewB_not HKL.out (by rw [hm.out]; exact m80))
            go_wp2
            go_roundw
            case rel => exact ⟨k + 1, false, by simp, by simp, by omega, Lib.hid (fun h => by cases h), HF', by first | rfl | trivial⟩
            case measure => simp [intOf]; omega
  · have h12' : ¬ (n : Int) ≤ 12 := by omega
    have h0' : (0 : Int) < n := by omega
    have HR : Hid (r = false) := Lib.hid (by rw [← hr.out]; unfold fewB; rw [decide_eq_false (by rw [hn.out]; exact h12), Bool.false_and])
    rw [HR.out]
    go_enter Tryz.func9, Tryz.ntmps9
    go_wp2_with fail
    generalize w.alloc (.cells #[.slice A n c] 24) = W1 at *
    generalize w.heap.size = g at *
    clear hq0
    go_loopw [3, 4] (fun fv v wr => v = .int .i64 0 ∧ fv = .bool false ∧ wr = W1) (fun _ v _ => 0)
    case atStart => exact ⟨rfl, by simp, rfl⟩
    case round =>
      obtain ⟨rfl, rfl, rfl⟩ := hrel
      have q0 := HQ0.out
      go_wp2_with fail
      go_ret
      exact ⟨by simp, HBa.out⟩

/-! ### May -/
theorem progMay_not {L : List FnD} {j : Nat} (hj : j < L.length) (h : crsMay (L[j]).code = false ∨ (L[j]).args < 0 ∨ 4 < (L[j]).args ∨ (j = 0 ∧ (L[j]).args ≠ 0)) : progMay L = false := by
  rw [Bool.eq_false_iff]
  intro hh
  unfold progMay at hh
  simp only [Bool.and_eq_true, decide_eq_true_iff, List.all_eq_true] at hh
  obtain ⟨⟨⟨h0, h1⟩, h2⟩, h3⟩ := hh
  have h4 := h3 _ (List.getElem_mem hj)
  unfold fnFine at h4
  simp only [Bool.and_eq_true, decide_eq_true_iff] at h4
  obtain ⟨⟨h5, h6⟩, h7⟩ := h4
  rcases h with h | h | h | ⟨rfl, h⟩
  · rw [h7] at h; cases h
  · omega
  · omega
  · rw [List.getD_eq_getElem?_getD, List.getElem?_map, List.getElem?_eq_getElem hj] at h2
    exact h (by simpa using h2)
theorem progMay_all {L : List FnD} {n : Nat} (hn : L.length = n) (h : ∀ j (hj : j < L.length), crsMay (L[j]).code = true ∧ 0 ≤ (L[j]).args ∧ (L[j]).args ≤ 4 ∧ (j = 0 → (L[j]).args = 0)) : progMay L = decide (0 < n ∧ n ≤ 8) := by
  unfold progMay
  have e1 : L.all fnFine = true := by
    rw [List.all_eq_true]
    intro f hf
    obtain ⟨j, hj, rfl⟩ := List.mem_iff_getElem.1 hf
    obtain ⟨h1, h2, h3, h4⟩ := h j hj
    unfold fnFine
    rw [h1, decide_eq_true h2, decide_eq_true h3]
    rfl
  have e2 : (L.map FnD.args).getD 0 0 = 0 := by
    by_cases h0 : 0 < L.length
    · rw [List.getD_eq_getElem?_getD, List.getElem?_map, List.getElem?_eq_getElem h0]
      simpa using (h 0 h0).2.2.2 rfl
    · rw [List.getD_eq_getElem?_getD, List.getElem?_eq_none (by rw [List.length_map]; omega)]
      rfl
  rw [e1, e2, hn, decide_eq_true rfl, Bool.and_true, Bool.and_true, Bool.eq_iff_iff]
  simp
set_option maxHeartbeats 4000000 in
set_option maxRecDepth 100000 in
theorem refProgMay_any (A : Option Addr) (c n : Nat) (L : List FnD) (r : Bool) (w : World) (h : Sl FnR 2 w A c L) (hn : Hid (L.length = n)) (hr : Hid (progMay L = r)) :
    Calls Tryz.prog 69 #[.agg #[.slice A n c]] w fun e w' => e = .returned (.bool r) ∧ Bel w w' := by
  have HS0 := Lib.hid h
  have HBIG : Hid (n ≤ 9223372036854775807) := Lib.hid (by rw [← hn.out]; have := h.le; have := h.big; simp only [maxLen] at this; omega)
  clear h
  have hq0 : (w.alloc (.cells #[.slice A n c] 24)).cell? ⟨w.heap.size, 0, none⟩ = some (.slice A n c) := cell_fresh w _ _ 0 _ rfl
  have HQ0 := Lib.hid hq0
  have HBa := Lib.hid ((Bel.refl w).alloc (.cells #[.slice A n c] 24))
  go_enter Tryz.func69, Tryz.ntmps69
  go_wp2_with fail
  generalize w.alloc (.cells #[.slice A n c] 24) = W1 at *
  generalize w.heap.size = g at *
  clear hq0
  go_loopw [3] (fun v wr => ∃ k : Nat, v = .int .i64 k ∧ k ≤ n ∧ Hid (∀ j (hj : j < L.length), j < k → crsMay (L[j]).code = true ∧ 0 ≤ (L[j]).args ∧ (L[j]).args ≤ 4 ∧ (j = 0 → (L[j]).args = 0)) ∧ Bel W1 wr) (fun v _ => n - (intOf v).toNat)
  case atStart => exact ⟨0, rfl, Nat.zero_le _, Lib.hid (fun j hj hk => absurd hk (Nat.not_lt_zero _)), Bel.refl _⟩
  case round =>
    obtain ⟨k, rfl, hk, HT, hbk⟩ := hrel
    have q0 := hbk.cell HQ0.out
    have HBw := HBa.out.trans hbk
    by_cases hkn : k = n
    · subst hkn
      have HR := Lib.hid ((progMay_all hn.out (fun j hj => HT.out j hj (by rw [← hn.out]; exact hj))).symm.trans hr.out)
      by_cases k0 : 0 < k
      · by_cases k1 : k ≤ 8
        · have k0' : (1 : Int) ≤ k := by omega
          have k1' : (k : Int) ≤ 8 := by omega
          go_wp2_with fail
          go_ret
          rw [← HR.out, decide_eq_true ⟨k0, k1⟩]
          exact ⟨by simp, HBw⟩
        · have k0' : (1 : Int) ≤ k := by omega
          have k1' : ¬ (k : Int) ≤ 8 := by omega
          go_wp2_with fail
          go_ret
          rw [← HR.out, decide_eq_false (fun h => k1 h.2)]
          exact ⟨by simp, HBw⟩
      · have k0' : ¬ (1 : Int) ≤ k := by omega
        go_wp2_with fail
        go_ret
        rw [← HR.out, decide_eq_false (fun h => k0 h.1)]
        exact ⟨by simp, HBw⟩
    · have hk1 : k < n := by omega
      have hk2 : (k : Int) < n := by omega
      have k0 : 0 ≤ (k : Int) := by omega
      have HKL : Hid (k < L.length) := Lib.hid (by rw [hn.out]; exact hk1)
      have HEK : Hid (IntKind.i64.wrap ((k : Int) + 1) = (k : Int) + 1) := Lib.hid (wrap_i64 (by omega) (by have := HBIG.out; omega))
      obtain ⟨b, o, rfl⟩ := HS0.out.addr (by rw [hn.out]; omega)
      obtain ⟨A', c', d0, d1, hsc⟩ := fn_cells (HS0.out.mono FnR.mono HBw) k HKL.out
      have HSC := Lib.hid hsc
      obtain ⟨f, hf⟩ : ∃ f, Hid (L[k]'HKL.out = f) := ⟨_, Lib.hid rfl⟩
      rw [hf.out] at d0 d1 HSC
      obtain ⟨gg, l⟩ := f
      simp only at d0 d1 HSC
      obtain ⟨m, hm⟩ : ∃ m, Hid (l.length = m) := ⟨_, Lib.hid rfl⟩
      rw [hm.out] at d1
      obtain ⟨cb, hcb⟩ : ∃ cb, Hid (crsMay l = cb) := ⟨_, Lib.hid rfl⟩
      clear hkn hsc
      go_wp2_with fail
      refine (refCode_any gg A' c' m l cb _ HSC.out hm hcb).mono ?_
      rintro e w2 ⟨rfl, hb⟩
      have HBk := Lib.hid (hbk.trans hb)
      have q0 := hb.cell q0
      have d0 := hb.cell d0
      have HBw := HBw.trans hb
      have NOT : Hid (crsMay l = false ∨ gg < 0 ∨ 4 < gg ∨ (k = 0 ∧ gg ≠ 0) → r = false) := Lib.hid (fun h => by
        rw [← hr.out]
        refine progMay_not HKL.out ?_
        rw [hf.out]
        exact h)
      clear hb hbk d1
      cases cb
      · have HR := Lib.hid (NOT.out (.inl hcb.out))
        go_wp2_with fail
        go_ret
        rw [HR.out]
        exact ⟨rfl, HBw⟩
      · by_cases g0 : gg < 0
        · have HR := Lib.hid (NOT.out (.inr (.inl g0)))
          go_wp2_with fail
          go_ret
          rw [HR.out]
          exact ⟨rfl, HBw⟩
        · by_cases g4 : 4 < gg
          · have HR := Lib.hid (NOT.out (.inr (.inr (.inl g4))))
            go_wp2_with fail
            go_ret
            rw [HR.out]
            exact ⟨rfl, HBw⟩
          · have g0' : 0 ≤ gg := by omega
            have g4' : gg ≤ 4 := by omega
            by_cases hk0 : k = 0
            · subst hk0
              simp only [Nat.zero_mul, Nat.add_zero] at d0
              by_cases gz : gg = 0
              · subst gz
                have HT' : Hid (∀ j (hj : j < L.length), j < 0 + 1 → crsMay (L[j]).code = true ∧ 0 ≤ (L[j]).args ∧ (L[j]).args ≤ 4 ∧ (j = 0 → (L[j]).args = 0)) := Lib.hid (fun j hj hk => by
                  obtain rfl : j = 0 := by omega
                  rw [hf.out]
                  exact ⟨hcb.out, by simp, by simp, fun _ => rfl⟩)
                clear g0 g4 NOT
                go_wp2
                go_roundw
                case rel => exact ⟨0 + 1, by simp, by omega, HT', HBk.out⟩
                case measure => simp [intOf]; omega
              · have gz' : (gg != 0) = true := by simpa using gz
                have HR := Lib.hid (NOT.out (.inr (.inr (.inr ⟨rfl, gz⟩))))
                go_wp2_with fail
                go_ret
                rw [HR.out]
                exact ⟨rfl, HBw⟩
            · have hk0' : ((k : Int) == 0) = false := by simp; omega
              have HT' : Hid (∀ j (hj : j < L.length), j < k + 1 → crsMay (L[j]).code = true ∧ 0 ≤ (L[j]).args ∧ (L[j]).args ≤ 4 ∧ (j = 0 → (L[j]).args = 0)) := Lib.hid (fun j hj hk => by
                by_cases e : j = k
                · subst e
                  rw [hf.out]
                  exact ⟨hcb.out, g0', g4', fun e => absurd e hk0⟩
                · exact HT.out j hj (by omega))
              have ek := HEK.out
              clear hk0 NOT
              go_wp2
              go_roundw
              case rel => exact ⟨k + 1, by simp, by omega, HT', HBk.out⟩
              case measure => simp [intOf]; omega
end Go.Proofs.YtebdnobgdimdoaaGreat
namespace Go.Proofs.YtebdnobgdimdoaaGreat
end Go.Proofs.YtebdnobgdimdoaaGreat
set_option linter.unusedVariables false
set_option linter.unusedSimpArgs false
namespace Go.Proofs.YtebdnobgdimdoaaGreat
open Go.RowKit
theorem u64_of_wf {x : Int} (h : (Lit.int .u64 x).wf = true) : 0 ≤ x ∧ x < 18446744073709551616 := by simp [Lit.wf, IntKind.min, IntKind.max, IntKind.bits, IntKind.signed] at h; omega
theorem wrap_u64 {x : Int} (h1 : 0 ≤ x) (h2 : x < 18446744073709551616) : IntKind.u64.wrap x = x := by simp [IntKind.wrap, IntKind.bits, IntKind.signed]; omega
theorem i64_of_wf' {x : Int} (h : (Lit.int .i64 x).wf = true) : -9223372036854775808 ≤ x ∧ x < 9223372036854775808 := by simp [Lit.wf, IntKind.min, IntKind.max, IntKind.bits, IntKind.signed] at h; omega
theorem inst_arr {C : Array Value} {op fn dst src : Int} {reg : Bool} {off imm : Int} (h : C.toList = InstD.cells ⟨op, fn, dst, src, reg, off, imm⟩) : C = #[.int .i64 op, .int .i64 fn, .int .i64 dst, .int .i64 src, .bool reg, .int .i64 off, .int .u32 imm] := by
  cases C; simp only [InstD.cells] at h; simp [h]
theorem code_at (op fn dst src : Int) (reg : Bool) (off imm : Int) (c : Nat) (w : World) (hc : Hid (codeN op fn reg = c)) (hm : Hid (mayB op fn dst src reg off imm = true)) :
    Calls Tryz.prog 104 #[.agg #[.int .i64 op, .int .i64 fn, .int .i64 dst, .int .i64 src, .bool reg, .int .i64 off, .int .u32 imm]] w fun e w' => e = .returned (.tuple #[.int .i64 c, .bool true]) ∧ Bel w w' := by
  have := code_ok op fn dst src reg off imm w hm.out
  rw [hc.out] at this
  exact this
theorem codeno_at (op fn dst src : Int) (reg : Bool) (off imm : Int) (w : World) (hm : Hid (mayB op fn dst src reg off imm = false)) :
    Calls Tryz.prog 104 #[.agg #[.int .i64 op, .int .i64 fn, .int .i64 dst, .int .i64 src, .bool reg, .int .i64 off, .int .u32 imm]] w fun e w' => e = .returned (.tuple #[.int .i64 0, .bool false]) ∧ Bel w w' := code_no op fn dst src reg off imm w hm.out
theorem may_at (op fn dst src : Int) (reg : Bool) (off imm : Int) (b : Bool) (w : World) (h : Hid (mayB op fn dst src reg off imm = b)) : Calls Tryz.prog 116 #[.agg #[.int .i64 op, .int .i64 fn, .int .i64 dst, .int .i64 src, .bool reg, .int .i64 off, .int .u32 imm]] w fun e w' => e = .returned (.bool b) ∧ Bel w w' := by
  have := may_any op fn dst src reg off imm w
  rw [h.out] at this
  exact this
theorem put_at (op fn dst src : Int) (reg : Bool) (off imm too : Int) (v e : Int) (w : World) (hi : U32 imm) (h : Hid (wput op fn dst src reg off imm too = (v, e))) :
    Calls Tryz.prog 59 #[.agg #[.int .i64 op, .int .i64 fn, .int .i64 dst, .int .i64 src, .bool reg, .int .i64 off, .int .u32 imm], .int .i64 too] w fun e' w' => e' = .returned (.tuple #[.int .u64 v, .int .i64 e]) ∧ Bel w w' := by
  have := isaput_any op fn dst src reg off imm too w hi
  rw [h.out] at this
  exact this
theorem may_ranges {op fn dst src : Int} {reg : Bool} {off imm : Int} (h : mayB op fn dst src reg off imm = true) : (0 ≤ dst ∧ dst < 8) ∧ (0 ≤ src ∧ src < 8) ∧ (op ≠ 1 → off = 0) := by
  obtain ⟨_, b, c, _, e, _⟩ := of_decide_eq_true h
  refine ⟨b, c, fun h1 => ?_⟩
  rw [if_neg h1] at e
  omega
/-- What is known of a word that was put. -/
theorem wput_ok2 {op fn dst src : Int} {reg : Bool} {off imm too v e : Int} (h : wput op fn dst src reg off imm too = (v, e)) :
    (e = 0 ∧ mayB op fn dst src reg off imm = true ∧ 0 ≤ too ∧ too ≤ 1023 ∧ (0 < too → op = 1 ∨ op = 6) ∧ v = wordI (codeN op fn reg) dst src too (if op = 6 then 0 else imm)) ∨ (e = 1 ∧ v = 0 ∧ ¬ (mayB op fn dst src reg off imm = true ∧ 0 ≤ too ∧ too ≤ 1023 ∧ (0 < too → op = 1 ∨ op = 6))) := by
  unfold wput at h
  split at h
  · rename_i hh
    obtain ⟨rfl, rfl⟩ := Prod.mk.inj h
    exact .inl ⟨rfl, hh.1, hh.2.1, hh.2.2.1, hh.2.2.2, rfl⟩
  · rename_i hh
    obtain ⟨rfl, rfl⟩ := Prod.mk.inj h
    exact .inr ⟨rfl, rfl, hh⟩
theorem word_range {c : Nat} {dst src too m : Int} (c1 : c < 40) (d : 0 ≤ dst ∧ dst < 8) (s : 0 ≤ src ∧ src < 8) (t0 : 0 ≤ too) (t1 : too ≤ 1023) (m0 : 0 ≤ m) (m1 : m < 4294967296) :
    0 ≤ wordI c dst src too m ∧ wordI c dst src too m < 11258999068426240 := by unfold wordI; omega
theorem word_parts {c : Nat} {dst src too m : Int} (c1 : c < 40) (d : 0 ≤ dst ∧ dst < 8) (s : 0 ≤ src ∧ src < 8) (t0 : 0 ≤ too) (t1 : too ≤ 1023) (m0 : 0 ≤ m) (m1 : m < 4294967296) :
    wordI c dst src too m / 281474976710656 = c ∧ wordI c dst src too m / 35184372088832 % 8 = dst ∧ wordI c dst src too m / 4398046511104 % 8 = src ∧ wordI c dst src too m / 4294967296 % 1024 = too ∧ wordI c dst src too m % 4294967296 = m := by
  unfold wordI
  refine ⟨by omega, by omega, by omega, by omega, by omega⟩
/-- What is got may be, and is put as the same word. -/
theorem wget_two (x : Int) : (wget x = (⟨0, 0, 0, 0, false, 0, 0⟩, 0, 7) ∧ ¬ wgetOk x) ∨ (wget x = (wgetI x, x / 4294967296 % 1024, 0) ∧ wgetOk x) := by
  by_cases h : wgetOk x
  · exact .inr ⟨if_pos h, h⟩
  · exact .inl ⟨if_neg h, h⟩
/-- A jump's distance counts for nothing but whether there may be one. -/
theorem may_off {op fn dst src : Int} {reg : Bool} {off imm : Int} (h : mayB op fn dst src reg off imm = true) : mayB op fn dst src reg 0 imm = true := by
  obtain ⟨a, b, c, d, e, f, g, i⟩ := of_decide_eq_true h
  exact decide_eq_true ⟨a, b, c, d, ⟨by omega, by split <;> omega⟩, f, g, i⟩
theorem may_imm6 {fn dst src : Int} {reg : Bool} {off imm : Int} (h : mayB 6 fn dst src reg off imm = true) : mayB 6 fn dst src reg off 0 = true := by
  obtain ⟨a, b, c, d, e, f, g, i⟩ := of_decide_eq_true h
  refine decide_eq_true ⟨a, b, c, d, e, f, .inr rfl, ?_⟩
  split
  · rfl
  · rename_i hr; rw [if_neg hr] at i; exact i
/-- What was put is got. -/
theorem wget_wput {op fn dst src : Int} {reg : Bool} {off imm too v : Int} (hi : U32 imm) (h : wput op fn dst src reg off imm too = (v, 0)) :
    wget v = (⟨op, fn, dst, src, reg, 0, if op = 6 then 0 else imm⟩, too, 0) ∧ 0 ≤ v ∧ v < 11258999068426240 := by
  rcases wput_ok2 h with ⟨-, hm, t0, t1, hg, hv⟩ | ⟨h1, _⟩
  · obtain ⟨d, s, _⟩ := may_ranges hm
    obtain ⟨hc, hp⟩ := code_pat hm
    have m0 : 0 ≤ (if op = 6 then 0 else imm) ∧ (if op = 6 then 0 else imm) < 4294967296 := by have := hi.lo; have := hi.hi; split <;> omega
    obtain ⟨z1, z2, z3, z4, z5⟩ := word_parts hc d s t0 t1 m0.1 m0.2
    have z6 := word_range hc d s t0 t1 m0.1 m0.2
    rw [← hv] at z1 z2 z3 z4 z5 z6
    have e1 : wgetI v = ⟨op, fn, dst, src, reg, 0, if op = 6 then 0 else imm⟩ := by
      unfold wgetI
      rw [z1, z2, z3, z5, Int.toNat_natCast, hp]
    have hm2 : mayB op fn dst src reg 0 (if op = 6 then 0 else imm) = true := by
      split
      · rename_i h6
        subst h6
        exact may_imm6 (may_off hm)
      · exact may_off hm
    have e2 : wputD (wgetI v) (v / 4294967296 % 1024) = (v, 0) := by
      rw [e1, z4]
      unfold wputD wput
      rw [if_pos ⟨hm2, t0, t1, hg⟩, hv]
      simp only [Prod.mk.injEq, and_true]
      congr 1
      split <;> rfl
    refine ⟨?_, z6⟩
    unfold wget
    rw [if_pos ⟨by omega, e2⟩, e1, z4]
  · cases h1
end Go.Proofs.YtebdnobgdimdoaaGreat
set_option linter.unusedVariables false
set_option linter.unusedSimpArgs false
namespace Go.Proofs.YtebdnobgdimdoaaGreat
open Go.RowKit
/-- Where an instruction goes, and whether it may. -/
def goTo (n m : Nat) (base at' : Int) (k : Nat) (i : InstD) : Int × Bool :=
  if i.op = 1 then (at' + k + i.off + 1, decide ((k : Int) + i.off + 1 < m)) else if i.op = 6 then (base + i.imm, decide (i.imm < n)) else (0, true)
def imgCode (n : Nat) (l : List InstD) (base at' : Int) : Nat → Option (List Int)
  | 0 => some []
  | k + 1 => (imgCode n l base at' k).bind fun ws => if (goTo n l.length base at' k l[k]!).2 = true then some (ws ++ [(wputD l[k]! (goTo n l.length base at' k l[k]!).1).1]) else none
theorem imgCode_none {n : Nat} {l : List InstD} {base at' : Int} {k : Nat} (h : imgCode n l base at' k = none) : ∀ m, k ≤ m → imgCode n l base at' m = none := by
  intro m hm
  induction m with
  | zero => obtain rfl : k = 0 := by omega
            exact h
  | succ m ih =>
    by_cases e : k = m + 1
    · subst e; exact h
    · rw [imgCode, ih (by omega)]
      rfl
theorem wput_rng (i : InstD) (t : Int) (hi : U32 i.imm) : 0 ≤ (wputD i t).1 ∧ (wputD i t).1 < 18446744073709551616 := by
  unfold wputD
  rcases wput_two i.op i.fn i.dst i.src i.reg i.off i.imm t with h | h
  · obtain ⟨v, e⟩ : ∃ v, wput i.op i.fn i.dst i.src i.reg i.off i.imm t = (v, 0) := ⟨(wput i.op i.fn i.dst i.src i.reg i.off i.imm t).1, by rw [← h]⟩
    have := (wget_wput hi e).2
    rw [e]
    simp only
    omega
  · rw [h]
    exact ⟨by decide, by decide⟩
theorem wf_u64R {x : Int} (h : 0 ≤ x ∧ x < 18446744073709551616) : (Lit.int .u64 x).wf = true := by
  simp [Lit.wf, IntKind.min, IntKind.max, IntKind.bits, IntKind.signed]
  omega
theorem imgCode_rng {n : Nat} {l : List InstD} {base at' : Int} (hl : ∀ i ∈ l, U32 i.imm) : ∀ (k : Nat) (ws : List Int), k ≤ l.length → imgCode n l base at' k = some ws → ws.length = k ∧ ∀ x ∈ ws, 0 ≤ x ∧ x < 18446744073709551616
  | 0, ws, _, h => by simp only [imgCode, Option.some.injEq] at h; subst h; exact ⟨rfl, fun x hx => (by cases hx)⟩
  | k + 1, ws, hk, h => by
    rw [imgCode, Option.bind_eq_some_iff] at h
    obtain ⟨ws', h1, h2⟩ := h
    obtain ⟨e1, e2⟩ := imgCode_rng hl k ws' (by omega) h1
    split at h2
    · simp only [Option.some.injEq] at h2
      subst h2
      refine ⟨by rw [List.length_append, e1]; rfl, fun x hx => ?_⟩
      rcases List.mem_append.1 hx with hx | hx
      · exact e2 x hx
      · obtain rfl := List.mem_singleton.1 hx
        exact wput_rng _ _ (by rw [getElem!_pos l k (by omega)]; exact hl _ (List.getElem_mem (by omega)))
    · cases h2
theorem wrap_u64N {x : Int} (h0 : 0 ≤ x) (h1 : x < 18446744073709551616) : IntKind.u64.wrap x = x := wrap_u64 h0 h1
set_option maxHeartbeats 2000000 in
theorem clo1 (k : Nat) (op fn dst src : Int) (reg : Bool) (off imm : Int) (ga gl : Nat) (at' : Int) (Al : Option Addr) (m c : Nat) (w : World) (h1 : w.cell? ⟨ga, 0, none⟩ = some (.int .i64 at')) (h2 : w.cell? ⟨gl, 0, none⟩ = some (.slice Al m c)) (hk : k ≤ 100000) (ho : 0 ≤ off ∧ off ≤ 65535) (ha : 0 ≤ at' ∧ at' ≤ 100000) :
    Calls Tryz.prog 106 #[.int .i64 k, .agg #[.int .i64 op, .int .i64 fn, .int .i64 dst, .int .i64 src, .bool reg, .int .i64 off, .int .u32 imm], .pointer (some ⟨ga, 0, none⟩), .pointer (some ⟨gl, 0, none⟩)] w fun e w' => e = .returned (.tuple #[.int .i64 (at' + k + off + 1), .bool (decide ((k : Int) + off + 1 < m))]) ∧ Bel w w' := by
  have HB := Lib.hid ((Bel.refl w).alloc (.cells #[.int .i64 op, .int .i64 fn, .int .i64 dst, .int .i64 src, .bool reg, .int .i64 off, .int .u32 imm] 95))
  have b1 := World.block_lt_of_cell? _ _ h1
  have b2 := World.block_lt_of_cell? _ _ h2
  simp only at b1 b2
  have e1 : IntKind.i64.wrap (at' + (k : Int)) = at' + k := wrap_i64 (by omega) (by omega)
  have e2 : IntKind.i64.wrap (at' + (k : Int) + off) = at' + k + off := wrap_i64 (by omega) (by omega)
  have e3 : IntKind.i64.wrap (at' + (k : Int) + off + 1) = at' + k + off + 1 := wrap_i64 (by omega) (by omega)
  have e4 : IntKind.i64.wrap ((k : Int) + off) = k + off := wrap_i64 (by omega) (by omega)
  have e5 : IntKind.i64.wrap ((k : Int) + off + 1) = k + off + 1 := wrap_i64 (by omega) (by omega)
  go_enter Tryz.func106, Tryz.ntmps106
  go_wp2_with fail
  go_quiet (fail)
  go_wp2_with fail
  go_ret2
  exact ⟨by first | rfl | simp, by repeat (first | exact HB.out | apply Bel.drew | apply Bel.drewN)⟩
set_option maxHeartbeats 2000000 in
theorem clo2 (k : Nat) (op fn dst src : Int) (reg : Bool) (off imm : Int) (gb gp : Nat) (base : Int) (A : Option Addr) (n c : Nat) (w : World) (h1 : w.cell? ⟨gb, 0, none⟩ = some (.int .i64 base)) (h2 : w.cell? ⟨gp, 0, none⟩ = some (.slice A n c)) (hi : U32 imm) (ha : 0 ≤ base ∧ base ≤ 100000) (hn : n ≤ 100000) :
    Calls Tryz.prog 107 #[.int .i64 k, .agg #[.int .i64 op, .int .i64 fn, .int .i64 dst, .int .i64 src, .bool reg, .int .i64 off, .int .u32 imm], .pointer (some ⟨gb, 0, none⟩), .pointer (some ⟨gp, 0, none⟩)] w fun e w' => e = .returned (.tuple #[.int .i64 (base + imm), .bool (decide (imm < n))]) ∧ Bel w w' := by
  have HB := Lib.hid ((Bel.refl w).alloc (.cells #[.int .i64 op, .int .i64 fn, .int .i64 dst, .int .i64 src, .bool reg, .int .i64 off, .int .u32 imm] 95))
  have b1 := World.block_lt_of_cell? _ _ h1
  have b2 := World.block_lt_of_cell? _ _ h2
  simp only at b1 b2
  have i0 := hi.lo
  have i1 := hi.hi
  have e1 : IntKind.i64.wrap imm = imm := wrap_i64 (by omega) (by omega)
  have e2 : IntKind.i64.wrap (base + imm) = base + imm := wrap_i64 (by omega) (by omega)
  have e3 : IntKind.u64.wrap imm = imm := wrap_u64N (by omega) (by omega)
  have e4 : IntKind.u64.wrap (n : Int) = n := wrap_u64N (by omega) (by omega)
  clear hi
  go_enter Tryz.func107, Tryz.ntmps107
  go_wp2_with fail
  go_quiet (fail)
  go_wp2_with fail
  go_ret2
  exact ⟨by first | rfl | simp, by repeat (first | exact HB.out | apply Bel.drew | apply Bel.drewN)⟩
end Go.Proofs.YtebdnobgdimdoaaGreat
