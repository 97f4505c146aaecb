/- Schemas: read, and whether one may not be. Rows of shapes, made. -/
import Derived.Test.YtebdnobgdimdoaaGreatGI
import Derived.Test.YtebdnobgdimdoaaGreatGB
set_option linter.unusedVariables false
set_option linter.unusedSimpArgs false
namespace Go.Proofs.YtebdnobgdimdoaaGreat
open Go.RowKit Go.Shelf Go.Lib
shelf_lay_g SlLaysH0.n8 Slgf 8 at Tryz 44 as schF8
def SchD.cells (x : SchD) : List Value := [.int .i64 x.kind, .int .i64 x.cap, .int .i64 x.words, .int .i64 x.ver]
def SchR (w : World) (cs : List Value) (x : SchD) : Prop := cs = x.cells ∧ ((Lit.int .i64 x.kind).wf = true ∧ (Lit.int .i64 x.cap).wf = true ∧ (Lit.int .i64 x.words).wf = true ∧ (Lit.int .i64 x.ver).wf = true)
theorem SchR.mono : Mono SchR := fun w w' cs x hb h => h
theorem sch_cells {w : World} {b off c : Nat} {l : List SchD} (h : Sl SchR 4 w (some ⟨b, off, none⟩) c l) : ∀ j, j < l.length → ∀ i v, (SchD.cells l[j]!)[i]? = some v → w.cell? ⟨b, off + j * 4 + i, none⟩ = some v := by
  intro j hj i v hv
  obtain ⟨b', off', cs, e, hl, ⟨rfl, hw⟩, hc⟩ := h.get j hj
  simp at e; obtain ⟨rfl, rfl⟩ := e
  rw [getElem!_pos l j hj] at hv
  exact hc i v hv
theorem scin_any (n lo hi : Int) (w : World) (b : Bool) (hb : Hid (decide (lo ≤ n ∧ n ≤ hi) = b)) : Calls Tryz.prog 76 #[.int .i64 n, .int .i64 lo, .int .i64 hi] w fun e w' => e = .returned (.bool b) ∧ w = w' := by
  rw [← hb.out]
  by_cases h0 : lo ≤ n
  · by_cases h1 : n ≤ hi
    all_goals
      go_enter Tryz.func76, Tryz.ntmps76
      go_wp2
      go_ret
      exact ⟨by simp [h0, h1], rfl⟩
  · go_enter Tryz.func76, Tryz.ntmps76
    go_wp2
    go_ret
    exact ⟨by simp; omega, rfl⟩
set_option maxHeartbeats 4000000 in
theorem schmay_any (kind cap words ver : Int) (r : Bool) (hr : Hid (schMay ⟨kind, cap, words, ver⟩ = r)) (w : World) : Calls Tryz.prog 41 #[.agg #[.int .i64 kind, .int .i64 cap, .int .i64 words, .int .i64 ver]] w fun e w' => e = .returned (.bool r) ∧ Bel w w' := by
  by_cases h3 : kind = 3
  · subst h3
    go_enter Tryz.func41, Tryz.ntmps41
    obtain ⟨b1, hb1⟩ : ∃ b, Hid (decide (0 ≤ (3 : Int) ∧ (3 : Int) ≤ 3) = b) := ⟨_, Lib.hid rfl⟩
    go_wp2_with fail
    refine (scin_any 3 0 3 _ b1 hb1).mono ?_
    rintro e w1 ⟨rfl, rfl⟩
    cases b1
    · have hr0 : r = false := by
        rw [← hr.out]
        unfold schMay
        have kk := of_decide_eq_false hb1.out
        exact decide_eq_false (by rintro ⟨k1, k2, k3, k4, k5, k6, k7, k8⟩; dsimp only at *; split at k6 <;> omega)
      subst hr0
      go_wp2_with fail
      go_ret
      exact ⟨rfl, (Bel.refl _).alloc _⟩
    obtain ⟨b2, hb2⟩ : ∃ b, Hid (decide (1 ≤ cap ∧ cap ≤ 16) = b) := ⟨_, Lib.hid rfl⟩
    go_wp2_with fail
    refine (scin_any cap 1 16 _ b2 hb2).mono ?_
    rintro e w2 ⟨rfl, rfl⟩
    cases b2
    · have hr0 : r = false := by
        rw [← hr.out]
        unfold schMay
        have kk := of_decide_eq_false hb2.out
        exact decide_eq_false (by rintro ⟨k1, k2, k3, k4, k5, k6, k7, k8⟩; dsimp only at *; split at k6 <;> omega)
      subst hr0
      go_wp2_with fail
      go_ret
      exact ⟨rfl, (Bel.refl _).alloc _⟩
    obtain ⟨b3, hb3⟩ : ∃ b, Hid (decide (1 ≤ words ∧ words ≤ 1) = b) := ⟨_, Lib.hid rfl⟩
    go_wp2_with fail
    refine (scin_any words 1 1 _ b3 hb3).mono ?_
    rintro e w3 ⟨rfl, rfl⟩
    cases b3
    · have hr0 : r = false := by
        rw [← hr.out]
        unfold schMay
        have kk := of_decide_eq_false hb3.out
        exact decide_eq_false (by rintro ⟨k1, k2, k3, k4, k5, k6, k7, k8⟩; dsimp only at *; split at k6 <;> omega)
      subst hr0
      go_wp2_with fail
      go_ret
      exact ⟨rfl, (Bel.refl _).alloc _⟩
    obtain ⟨b4, hb4⟩ : ∃ b, Hid (decide (0 ≤ ver ∧ ver ≤ 1000) = b) := ⟨_, Lib.hid rfl⟩
    go_wp2_with fail
    refine (scin_any ver 0 1000 _ b4 hb4).mono ?_
    rintro e w4 ⟨rfl, rfl⟩
    cases b4
    · have hr0 : r = false := by
        rw [← hr.out]
        unfold schMay
        have kk := of_decide_eq_false hb4.out
        exact decide_eq_false (by rintro ⟨k1, k2, k3, k4, k5, k6, k7, k8⟩; dsimp only at *; split at k6 <;> omega)
      subst hr0
      go_wp2_with fail
      go_ret
      exact ⟨rfl, (Bel.refl _).alloc _⟩
    have hr1 : r = true := by
      rw [← hr.out]
      unfold schMay
      have k1 := of_decide_eq_true hb1.out
      have k2 := of_decide_eq_true hb2.out
      have k3 := of_decide_eq_true hb3.out
      have k4 := of_decide_eq_true hb4.out
      exact decide_eq_true (by dsimp only; refine ⟨by omega, by omega, by omega, by omega, by omega, by split <;> omega, by omega, by omega⟩)
    subst hr1
    go_wp2_with fail
    go_ret
    exact ⟨rfl, (Bel.refl _).alloc _⟩
  · have h3b : (kind == 3) = false := by simpa using h3
    have H3 := Lib.hid h3
    clear h3
    go_enter Tryz.func41, Tryz.ntmps41
    obtain ⟨b1, hb1⟩ : ∃ b, Hid (decide (0 ≤ kind ∧ kind ≤ 3) = b) := ⟨_, Lib.hid rfl⟩
    go_wp2_with fail
    refine (scin_any kind 0 3 _ b1 hb1).mono ?_
    rintro e w1 ⟨rfl, rfl⟩
    cases b1
    · have hr0 : r = false := by
        rw [← hr.out]
        unfold schMay
        have kk := of_decide_eq_false hb1.out
        have h3 := H3.out
        exact decide_eq_false (by rintro ⟨k1, k2, k3, k4, k5, k6, k7, k8⟩; dsimp only at *; split at k6 <;> omega)
      subst hr0
      go_wp2_with fail
      go_ret
      exact ⟨rfl, (Bel.refl _).alloc _⟩
    obtain ⟨b2, hb2⟩ : ∃ b, Hid (decide (1 ≤ cap ∧ cap ≤ 16) = b) := ⟨_, Lib.hid rfl⟩
    go_wp2_with fail
    refine (scin_any cap 1 16 _ b2 hb2).mono ?_
    rintro e w2 ⟨rfl, rfl⟩
    cases b2
    · have hr0 : r = false := by
        rw [← hr.out]
        unfold schMay
        have kk := of_decide_eq_false hb2.out
        have h3 := H3.out
        exact decide_eq_false (by rintro ⟨k1, k2, k3, k4, k5, k6, k7, k8⟩; dsimp only at *; split at k6 <;> omega)
      subst hr0
      go_wp2_with fail
      go_ret
      exact ⟨rfl, (Bel.refl _).alloc _⟩
    obtain ⟨b3, hb3⟩ : ∃ b, Hid (decide (1 ≤ words ∧ words ≤ 4) = b) := ⟨_, Lib.hid rfl⟩
    go_wp2_with fail
    refine (scin_any words 1 4 _ b3 hb3).mono ?_
    rintro e w3 ⟨rfl, rfl⟩
    cases b3
    · have hr0 : r = false := by
        rw [← hr.out]
        unfold schMay
        have kk := of_decide_eq_false hb3.out
        have h3 := H3.out
        exact decide_eq_false (by rintro ⟨k1, k2, k3, k4, k5, k6, k7, k8⟩; dsimp only at *; split at k6 <;> omega)
      subst hr0
      go_wp2_with fail
      go_ret
      exact ⟨rfl, (Bel.refl _).alloc _⟩
    obtain ⟨b4, hb4⟩ : ∃ b, Hid (decide (0 ≤ ver ∧ ver ≤ 1000) = b) := ⟨_, Lib.hid rfl⟩
    go_wp2_with fail
    refine (scin_any ver 0 1000 _ b4 hb4).mono ?_
    rintro e w4 ⟨rfl, rfl⟩
    cases b4
    · have hr0 : r = false := by
        rw [← hr.out]
        unfold schMay
        have kk := of_decide_eq_false hb4.out
        have h3 := H3.out
        exact decide_eq_false (by rintro ⟨k1, k2, k3, k4, k5, k6, k7, k8⟩; dsimp only at *; split at k6 <;> omega)
      subst hr0
      go_wp2_with fail
      go_ret
      exact ⟨rfl, (Bel.refl _).alloc _⟩
    have hr1 : r = true := by
      rw [← hr.out]
      unfold schMay
      have k1 := of_decide_eq_true hb1.out
      have k2 := of_decide_eq_true hb2.out
      have k3 := of_decide_eq_true hb3.out
      have k4 := of_decide_eq_true hb4.out
      have h3 := H3.out
      exact decide_eq_true (by dsimp only; refine ⟨by omega, by omega, by omega, by omega, by omega, by split <;> omega, by omega, by omega⟩)
    subst hr1
    go_wp2_with fail
    go_ret
    exact ⟨rfl, (Bel.refl _).alloc _⟩
theorem schOff_pred (w : World) : PredBelow Tryz.prog 45 #[] (fun x : SchD => .agg (SchD.cells x).toArray) (fun x => !schMay x) w := fun W x hb => by
  obtain ⟨kind, cap, words, ver⟩ := x
  show Calls Tryz.prog 45 #[.agg #[.int .i64 kind, .int .i64 cap, .int .i64 words, .int .i64 ver]] W _
  have HB := Bel.of hb
  go_enter Tryz.func45, Tryz.ntmps45
  go_wp2_with fail
  refine (schmay_any kind cap words ver _ (Lib.hid rfl) _).mono ?_
  rintro e w1 ⟨rfl, hb1⟩
  go_wp2_with fail
  go_ret
  exact ⟨rfl, by first | exact (HB.trans hb1).out | exact ((HB.alloc _).trans hb1).out⟩
theorem schOff_enters : ∀ args w, (callFunc 45 args).run Tryz.prog w = .ok (.enter 45 args) w := enters_of Tryz.func45 (by kernel_rfl) rfl
theorem containsS_some (b off c n : Nat) (l : List SchD) (w : World) (h : Sl SchR 4 w (some ⟨b, off, none⟩) c l) (hp : 0 < l.length) (hn : Hid (l.length = n)) (r : Bool) (hr : Hid (l.any (fun x => !schMay x) = r)) :
    Calls Tryz.prog 44 #[.slice (some ⟨b, off, none⟩) n c, .func (.func 45) #[] #[]] w fun e w' => e = .returned (.bool r) ∧ Bel w w' := by
  have hb : b < w.heap.size := by
    obtain ⟨b', off', cs, e, hl, ⟨rfl, hw⟩, hc⟩ := h.get 0 hp
    simp at e; obtain ⟨rfl, rfl⟩ := e
    exact World.block_lt_of_cell? _ _ (hc 0 _ rfl)
  have hle := h.le
  have hbig := h.big
  simp only [maxLen] at hbig
  have hcon := AnyQ.slices_ContainsFunc schF8 4 Tryz.isAgg44 Tryz.sizeOf44 SchD.cells (fun _ => rfl) (fun x => !schMay x) 45 #[] schOff_enters b off l.length c l w (schOff_pred w) (Nat.le_refl _) (by omega) hb (sch_cells h)
  change Calls Tryz.prog 44 _ _ _ at hcon
  rw [List.take_length, hr.out, hn.out] at hcon
  exact hcon.mono fun e w' ⟨h1, h2⟩ => ⟨h1, Bel.of h2⟩
theorem indexS_none (A : Option Addr) (c : Nat) (f : Value) (w : World) : Calls Tryz.prog 79 #[.slice A 0 c, f] w fun e w' => e = .returned (.int .i64 (-1)) ∧ w' = w := by
  go_enter Tryz.func79, Tryz.ntmps79
  go_wp2_with fail
  go_loopw [8] (fun kv wr => kv = .int .i64 0 ∧ Hid (wr = w)) (fun _ _ => 0)
  case atStart => exact ⟨rfl, Lib.hid rfl⟩
  case round =>
    obtain ⟨rfl, hw⟩ := hrel
    go_wp2_with fail
    go_ret
    exact ⟨rfl, hw.out⟩
theorem containsS_none (A : Option Addr) (c : Nat) (f : Value) (w : World) : Calls Tryz.prog 44 #[.slice A 0 c, f] w fun e w' => e = .returned (.bool false) ∧ w' = w := by
  go_enter Tryz.func44, Tryz.ntmps44
  go_wp2_with fail
  refine (indexS_none A c f _).mono ?_
  rintro e w1 ⟨rfl, rfl⟩
  go_wp2_with fail
  go_ret
  exact ⟨rfl, rfl⟩
theorem containsS_any (Q : Option Addr) (c n : Nat) (l : List SchD) (w : World) (h : Sl SchR 4 w Q c l) (hn : Hid (l.length = n)) (r : Bool) (hr : Hid (l.any (fun x => !schMay x) = r)) :
    Calls Tryz.prog 44 #[.slice Q n c, .func (.func 45) #[] #[]] w fun e w' => e = .returned (.bool r) ∧ Bel w w' := by
  by_cases h0 : n = 0
  · subst h0
    have hl : l = [] := List.eq_nil_of_length_eq_zero hn.out
    subst hl
    obtain rfl : r = false := by rw [← hr.out]; rfl
    exact (containsS_none Q c _ w).mono fun e w' ⟨h1, h2⟩ => ⟨h1, by rw [h2]; exact Bel.refl _⟩
  · obtain ⟨b, o, rfl⟩ := h.addr (by rw [hn.out]; omega)
    exact containsS_some b o c n l w h (by rw [hn.out]; omega) hn r hr
end Go.Proofs.YtebdnobgdimdoaaGreat
set_option linter.unusedVariables false
set_option linter.unusedSimpArgs false
namespace Go.Proofs.YtebdnobgdimdoaaGreat
open Go.RowKit
theorem made_shapes (n : Nat) (hn : n ≤ 64) (w : World) : (Instr.makeSlice 61 (.int .i64 n) (.int .i64 n)).run Tryz.prog w = .ok (.slice (some ⟨w.heap.size, 0, none⟩) n n) (w.alloc (.cells (insC (List.replicate n none)) 69)) := by
  have h : (Tryz.prog.info? 69).map (fun i => (i.zero, i.size, i.bytes)) = some (some (.agg #[.bool false, .bool false, .bool false, .bool false, .bool false, .bool false, .bool false, .bool false, .complex .f64 0 0, .complex .f64 0 0, .complex .f64 0 0, .complex .f64 0 0, .complex .f64 0 0, .complex .f64 0 0, .complex .f64 0 0, .complex .f64 0 0]), 16, 136) := by kernel_rfl
  rw [← shC_zero] at h
  obtain ⟨i, hi, hz⟩ := Option.map_eq_some_iff.1 h
  simp only [Prod.mk.injEq] at hz
  obtain ⟨hz0, hz1, hz2⟩ := hz
  have := run_make (P := Tryz.prog) w 61 69 i (.agg (shC (fun _ => none))) Tryz.underlying61 hi hz0 .i64 .i64 (n : Int) (n : Int) (by omega) (Int.le_refl _) (by rw [hz2]; omega) (by omega)
  rw [this, hz1, Int.toNat_natCast, show (Value.agg (shC (fun _ => none))).cells = shC (fun _ => none) from rfl]
  have e : madeCells (shC (fun _ => none)) (n * 16) = insC (List.replicate n none) := by
    apply Array.ext_getElem?
    intro i
    by_cases hi : i < n * 16
    · obtain ⟨q, j, hj, rfl⟩ : ∃ q j, j < 16 ∧ i = q * 16 + j := ⟨i / 16, i % 16, by omega, by omega⟩
      rw [insC_get _ (by rw [List.length_replicate]; omega) hj, List.getElem_replicate]
      have hm : (q * 16 + j) % 16 = j := by omega
      have hj2 : j < (shC (fun _ => none)).size := by rw [shC_size]; exact hj
      rw [show sh0 none = (fun _ => none : ShD) from rfl, Array.getElem?_eq_getElem hj2]
      have hr : (Array.range (n * 16))[q * 16 + j]? = some (q * 16 + j) := by simp [hi]
      simp only [madeCells, Array.getElem?_map, hr, Option.map_some, shC_size, hm]
      exact congrArg some (getElem!_pos (shC (fun _ => none)) j hj2)
    · rw [Array.getElem?_eq_none (by rw [size_madeCells]; omega), Array.getElem?_eq_none (by rw [insC_size, List.length_replicate]; omega)]
  rw [e]
theorem made_bools (n : Nat) (hn : n ≤ 64) (w : World) : (Instr.makeSlice 62 (.int .i64 n) (.int .i64 n)).run Tryz.prog w = .ok (.slice (some ⟨w.heap.size, 0, none⟩) n n) (w.alloc (.cells (insB (List.replicate n none)) 4)) := by
  have := (made_row n w).resolve_right (by omega)
  rw [this]
  have e : ((List.replicate n false).map Value.bool).toArray = insB (List.replicate n none) := by
    unfold insB
    simp
  rw [e]
theorem fn_fine {p : List FnD} (h : progMay p = true) {j : Nat} (hj : j < p.length) : crsMay (p[j]).code = true ∧ 0 ≤ (p[j]).args ∧ (p[j]).args ≤ 4 := by
  unfold progMay at h
  simp only [Bool.and_eq_true, decide_eq_true_iff, List.all_eq_true] at h
  have := h.2 _ (List.getElem_mem hj)
  unfold fnFine at this
  simp only [Bool.and_eq_true, decide_eq_true_iff] at this
  exact ⟨this.2, this.1.1, this.1.2⟩
end Go.Proofs.YtebdnobgdimdoaaGreat
