/- Schemas: read, and whether one may not be. -/
import Derived.Test.YtebdnobgdimdoaaVw6
set_option linter.unusedVariables false
set_option linter.unusedSimpArgs false
namespace Go.Proofs.Ytebdnobgdimdoaa
open Go.RowKit Go.Shelf Go.Lib
shelf_lay_g SlLaysH0.n8 Slgf 8 at Try 19 as schF8

def SchD.cells (x : SchD) : List Value := [.int .i64 x.kind, .int .i64 x.cap, .int .i64 x.words, .int .i64 x.ver]
def SchR (w : World) (cs : List Value) (x : SchD) : Prop := cs = x.cells ∧ ((Lit.int .i64 x.kind).wf = true ∧ (Lit.int .i64 x.cap).wf = true ∧ (Lit.int .i64 x.words).wf = true ∧ (Lit.int .i64 x.ver).wf = true)
theorem SchR.mono : Mono SchR := fun w w' cs x hb h => h
theorem sch_cells {w : World} {b off c : Nat} {l : List SchD} (h : Sl SchR 4 w (some ⟨b, off, none⟩) c l) : ∀ j, j < l.length → ∀ i v, (SchD.cells l[j]!)[i]? = some v → w.cell? ⟨b, off + j * 4 + i, none⟩ = some v := by
  intro j hj i v hv
  obtain ⟨b', off', cs, e, hl, ⟨rfl, hw⟩, hc⟩ := h.get j hj
  simp at e; obtain ⟨rfl, rfl⟩ := e
  rw [getElem!_pos l j hj] at hv
  exact hc i v hv
theorem scin_any (n lo hi : Int) (w : World) (b : Bool) (hb : Hid (decide (lo ≤ n ∧ n ≤ hi) = b)) : Calls Try.prog 38 #[.int .i64 n, .int .i64 lo, .int .i64 hi] w fun e w' => e = .returned (.bool b) ∧ w = w' := by
  rw [← hb.out]
  by_cases h0 : lo ≤ n
  · by_cases h1 : n ≤ hi
    all_goals
      go_enter Try.func38, Try.ntmps38
      go_wp2
      go_ret
      exact ⟨by simp [h0, h1], rfl⟩
  · go_enter Try.func38, Try.ntmps38
    go_wp2
    go_ret
    exact ⟨by simp; omega, rfl⟩
set_option maxHeartbeats 4000000 in
theorem schmay_any (kind cap words ver : Int) (r : Bool) (hr : Hid (schMay ⟨kind, cap, words, ver⟩ = r)) (w : World) : Calls Try.prog 21 #[.agg #[.int .i64 kind, .int .i64 cap, .int .i64 words, .int .i64 ver]] w fun e w' => e = .returned (.bool r) ∧ Bel w w' := by
  by_cases h3 : kind = 3
  · subst h3
    go_enter Try.func21, Try.ntmps21
    obtain ⟨b1, hb1⟩ : ∃ b, Hid (decide (0 ≤ (3 : Int) ∧ (3 : Int) ≤ 3) = b) := ⟨_, Lib.hid rfl⟩
    go_wp2_with fail
    refine (scin_any 3 0 3 _ b1 hb1).mono ?_
    rintro e w1 ⟨rfl, rfl⟩
    cases b1
    · have hr0 : r = false := by
        rw [← hr.out]
        unfold schMay
        have kk := of_decide_eq_false hb1.out
        exact decide_eq_false (by rintro ⟨k1, k2, k3, k4, k5, k6, k7, k8⟩; dsimp only at *; split at k6 <;> omega)
      subst hr0
      go_wp2_with fail
      go_ret
      exact ⟨rfl, (Bel.refl _).alloc _⟩
    obtain ⟨b2, hb2⟩ : ∃ b, Hid (decide (1 ≤ cap ∧ cap ≤ 16) = b) := ⟨_, Lib.hid rfl⟩
    go_wp2_with fail
    refine (scin_any cap 1 16 _ b2 hb2).mono ?_
    rintro e w2 ⟨rfl, rfl⟩
    cases b2
    · have hr0 : r = false := by
        rw [← hr.out]
        unfold schMay
        have kk := of_decide_eq_false hb2.out
        exact decide_eq_false (by rintro ⟨k1, k2, k3, k4, k5, k6, k7, k8⟩; dsimp only at *; split at k6 <;> omega)
      subst hr0
      go_wp2_with fail
      go_ret
      exact ⟨rfl, (Bel.refl _).alloc _⟩
    obtain ⟨b3, hb3⟩ : ∃ b, Hid (decide (1 ≤ words ∧ words ≤ 1) = b) := ⟨_, Lib.hid rfl⟩
    go_wp2_with fail
    refine (scin_any words 1 1 _ b3 hb3).mono ?_
    rintro e w3 ⟨rfl, rfl⟩
    cases b3
    · have hr0 : r = false := by
        rw [← hr.out]
        unfold schMay
        have kk := of_decide_eq_false hb3.out
        exact decide_eq_false (by rintro ⟨k1, k2, k3, k4, k5, k6, k7, k8⟩; dsimp only at *; split at k6 <;> omega)
      subst hr0
      go_wp2_with fail
      go_ret
      exact ⟨rfl, (Bel.refl _).alloc _⟩
    obtain ⟨b4, hb4⟩ : ∃ b, Hid (decide (0 ≤ ver ∧ ver ≤ 1000) = b) := ⟨_, Lib.hid rfl⟩
    go_wp2_with fail
    refine (scin_any ver 0 1000 _ b4 hb4).mono ?_
    rintro e w4 ⟨rfl, rfl⟩
    cases b4
    · have hr0 : r = false := by
        rw [← hr.out]
        unfold schMay
        have kk := of_decide_eq_false hb4.out
        exact decide_eq_false (by rintro ⟨k1, k2, k3, k4, k5, k6, k7, k8⟩; dsimp only at *; split at k6 <;> omega)
      subst hr0
      go_wp2_with fail
      go_ret
      exact ⟨rfl, (Bel.refl _).alloc _⟩
    have hr1 : r = true := by
      rw [← hr.out]
      unfold schMay
      have k1 := of_decide_eq_true hb1.out
      have k2 := of_decide_eq_true hb2.out
      have k3 := of_decide_eq_true hb3.out
      have k4 := of_decide_eq_true hb4.out
      exact decide_eq_true (by dsimp only; refine ⟨by omega, by omega, by omega, by omega, by omega, by split <;> omega, by omega, by omega⟩)
    subst hr1
    go_wp2_with fail
    go_ret
    exact ⟨rfl, (Bel.refl _).alloc _⟩
  · have h3b : (kind == 3) = false := by simpa using h3
    have H3 := Lib.hid h3
    clear h3
    go_enter Try.func21, Try.ntmps21
    obtain ⟨b1, hb1⟩ : ∃ b, Hid (decide (0 ≤ kind ∧ kind ≤ 3) = b) := ⟨_, Lib.hid rfl⟩
    go_wp2_with fail
    refine (scin_any kind 0 3 _ b1 hb1).mono ?_
    rintro e w1 ⟨rfl, rfl⟩
    cases b1
    · have hr0 : r = false := by
        rw [← hr.out]
        unfold schMay
        have kk := of_decide_eq_false hb1.out
        have h3 := H3.out
        exact decide_eq_false (by rintro ⟨k1, k2, k3, k4, k5, k6, k7, k8⟩; dsimp only at *; split at k6 <;> omega)
      subst hr0
      go_wp2_with fail
      go_ret
      exact ⟨rfl, (Bel.refl _).alloc _⟩
    obtain ⟨b2, hb2⟩ : ∃ b, Hid (decide (1 ≤ cap ∧ cap ≤ 16) = b) := ⟨_, Lib.hid rfl⟩
    go_wp2_with fail
    refine (scin_any cap 1 16 _ b2 hb2).mono ?_
    rintro e w2 ⟨rfl, rfl⟩
    cases b2
    · have hr0 : r = false := by
        rw [← hr.out]
        unfold schMay
        have kk := of_decide_eq_false hb2.out
        have h3 := H3.out
        exact decide_eq_false (by rintro ⟨k1, k2, k3, k4, k5, k6, k7, k8⟩; dsimp only at *; split at k6 <;> omega)
      subst hr0
      go_wp2_with fail
      go_ret
      exact ⟨rfl, (Bel.refl _).alloc _⟩
    obtain ⟨b3, hb3⟩ : ∃ b, Hid (decide (1 ≤ words ∧ words ≤ 4) = b) := ⟨_, Lib.hid rfl⟩
    go_wp2_with fail
    refine (scin_any words 1 4 _ b3 hb3).mono ?_
    rintro e w3 ⟨rfl, rfl⟩
    cases b3
    · have hr0 : r = false := by
        rw [← hr.out]
        unfold schMay
        have kk := of_decide_eq_false hb3.out
        have h3 := H3.out
        exact decide_eq_false (by rintro ⟨k1, k2, k3, k4, k5, k6, k7, k8⟩; dsimp only at *; split at k6 <;> omega)
      subst hr0
      go_wp2_with fail
      go_ret
      exact ⟨rfl, (Bel.refl _).alloc _⟩
    obtain ⟨b4, hb4⟩ : ∃ b, Hid (decide (0 ≤ ver ∧ ver ≤ 1000) = b) := ⟨_, Lib.hid rfl⟩
    go_wp2_with fail
    refine (scin_any ver 0 1000 _ b4 hb4).mono ?_
    rintro e w4 ⟨rfl, rfl⟩
    cases b4
    · have hr0 : r = false := by
        rw [← hr.out]
        unfold schMay
        have kk := of_decide_eq_false hb4.out
        have h3 := H3.out
        exact decide_eq_false (by rintro ⟨k1, k2, k3, k4, k5, k6, k7, k8⟩; dsimp only at *; split at k6 <;> omega)
      subst hr0
      go_wp2_with fail
      go_ret
      exact ⟨rfl, (Bel.refl _).alloc _⟩
    have hr1 : r = true := by
      rw [← hr.out]
      unfold schMay
      have k1 := of_decide_eq_true hb1.out
      have k2 := of_decide_eq_true hb2.out
      have k3 := of_decide_eq_true hb3.out
      have k4 := of_decide_eq_true hb4.out
      have h3 := H3.out
      exact decide_eq_true (by dsimp only; refine ⟨by omega, by omega, by omega, by omega, by omega, by split <;> omega, by omega, by omega⟩)
    subst hr1
    go_wp2_with fail
    go_ret
    exact ⟨rfl, (Bel.refl _).alloc _⟩
theorem schOff_pred (w : World) : PredBelow Try.prog 20 #[] (fun x : SchD => .agg (SchD.cells x).toArray) (fun x => !schMay x) w := fun W x hb => by
  obtain ⟨kind, cap, words, ver⟩ := x
  show Calls Try.prog 20 #[.agg #[.int .i64 kind, .int .i64 cap, .int .i64 words, .int .i64 ver]] W _
  have HB := Bel.of hb
  go_enter Try.func20, Try.ntmps20
  go_wp2_with fail
  refine (schmay_any kind cap words ver _ (Lib.hid rfl) _).mono ?_
  rintro e w1 ⟨rfl, hb1⟩
  go_wp2_with fail
  go_ret
  exact ⟨rfl, by first | exact (HB.trans hb1).out | exact ((HB.alloc _).trans hb1).out⟩
theorem schOff_enters : ∀ args w, (callFunc 20 args).run Try.prog w = .ok (.enter 20 args) w := enters_of Try.func20 (by kernel_rfl) rfl
theorem containsS_some (b off c n : Nat) (l : List SchD) (w : World) (h : Sl SchR 4 w (some ⟨b, off, none⟩) c l) (hp : 0 < l.length) (hn : Hid (l.length = n)) (r : Bool) (hr : Hid (l.any (fun x => !schMay x) = r)) :
    Calls Try.prog 19 #[.slice (some ⟨b, off, none⟩) n c, .func (.func 20) #[] #[]] w fun e w' => e = .returned (.bool r) ∧ Bel w w' := by
  have hb : b < w.heap.size := by
    obtain ⟨b', off', cs, e, hl, ⟨rfl, hw⟩, hc⟩ := h.get 0 hp
    simp at e; obtain ⟨rfl, rfl⟩ := e
    exact World.block_lt_of_cell? _ _ (hc 0 _ rfl)
  have hle := h.le
  have hbig := h.big
  simp only [maxLen] at hbig
  have hcon := AnyQ.slices_ContainsFunc schF8 4 Try.isAgg40 Try.sizeOf40 SchD.cells (fun _ => rfl) (fun x => !schMay x) 20 #[] schOff_enters b off l.length c l w (schOff_pred w) (Nat.le_refl _) (by omega) hb (sch_cells h)
  change Calls Try.prog 19 _ _ _ at hcon
  rw [List.take_length, hr.out, hn.out] at hcon
  exact hcon.mono fun e w' ⟨h1, h2⟩ => ⟨h1, Bel.of h2⟩
theorem indexS_none (A : Option Addr) (c : Nat) (f : Value) (w : World) : Calls Try.prog 37 #[.slice A 0 c, f] w fun e w' => e = .returned (.int .i64 (-1)) ∧ w' = w := by
  go_enter Try.func37, Try.ntmps37
  go_wp2_with fail
  go_loopw [8] (fun kv wr => kv = .int .i64 0 ∧ Hid (wr = w)) (fun _ _ => 0)
  case atStart => exact ⟨rfl, Lib.hid rfl⟩
  case round =>
    obtain ⟨rfl, hw⟩ := hrel
    go_wp2_with fail
    go_ret
    exact ⟨rfl, hw.out⟩
theorem containsS_none (A : Option Addr) (c : Nat) (f : Value) (w : World) : Calls Try.prog 19 #[.slice A 0 c, f] w fun e w' => e = .returned (.bool false) ∧ w' = w := by
  go_enter Try.func19, Try.ntmps19
  go_wp2_with fail
  refine (indexS_none A c f _).mono ?_
  rintro e w1 ⟨rfl, rfl⟩
  go_wp2_with fail
  go_ret
  exact ⟨rfl, rfl⟩
theorem containsS_any (Q : Option Addr) (c n : Nat) (l : List SchD) (w : World) (h : Sl SchR 4 w Q c l) (hn : Hid (l.length = n)) (r : Bool) (hr : Hid (l.any (fun x => !schMay x) = r)) :
    Calls Try.prog 19 #[.slice Q n c, .func (.func 20) #[] #[]] w fun e w' => e = .returned (.bool r) ∧ Bel w w' := by
  by_cases h0 : n = 0
  · subst h0
    have hl : l = [] := List.eq_nil_of_length_eq_zero hn.out
    subst hl
    obtain rfl : r = false := by rw [← hr.out]; rfl
    exact (containsS_none Q c _ w).mono fun e w' ⟨h1, h2⟩ => ⟨h1, by rw [h2]; exact Bel.refl _⟩
  · obtain ⟨b, o, rfl⟩ := h.addr (by rw [hn.out]; omega)
    exact containsS_some b o c n l w h (by rw [hn.out]; omega) hn r hr
end Go.Proofs.Ytebdnobgdimdoaa
