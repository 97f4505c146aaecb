/- bounds.Cut by its contract. What is known of registers, and how a function is gone through (chapters 10, 11), as plain functions. Nothing of the program. bounds.Cut and Alu, at whatever they come to (cut from BndLaws for chapter 11). What two words come to is within what their bounds come to. No program in sight. -/
import Derived.Test.YtebdnobgdimdoaaGreatZBnd6
import Derived.Test.YtebdnobgdimdoaaGreatGB
import Derived.Test.YtebdnobgdimdoaaGreatGC
import Derived.Sort.AtCall
import Derived.Test.YtebdnobgdimdoaaGreatGD
set_option linter.unusedVariables false
set_option linter.unusedSimpArgs false
namespace Go.Proofs.YtebdnobgdimdoaaGreat
open Go.RowKit
attribute [local go_sem] max2_nat min2_nat bmax_two bmin_two
/-- What is left of bounds. -/
def cutS (c : Int) (l1 h1 l2 h2 : Nat) : Nat × Nat × Bool :=
  if c = 1 then (if nmax l1 l2 ≤ nmin h1 h2 then (nmax l1 l2, nmin h1 h2, true) else (0, 4294967295, false))
  else if c = 2 then (if l2 = h2 then (if l1 = l2 then (if h1 = l2 then (0, 4294967295, false) else (l1 + 1, h1, true)) else if h1 = l2 then (l1, h1 - 1, true) else (l1, h1, true)) else (l1, h1, true))
  else if c = 3 then (if 0 < h2 then (if l1 ≤ nmin h1 (h2 - 1) then (l1, nmin h1 (h2 - 1), true) else (0, 4294967295, false)) else (0, 4294967295, false))
  else if c = 4 then (if nmax l1 l2 ≤ h1 then (nmax l1 l2, h1, true) else (0, 4294967295, false))
  else (l1, h1, true)
theorem told_at (l h : Nat) (x y : Int) (w : World) (hx : x = l) (hy : y = h) : Calls Tryz.prog 148 #[.agg #[.int .u64 x, .int .u64 y]] w fun e w' => e = .returned (.complex .f64 (fl l) (fl h)) ∧ Bel w w' := by
  subst hx; subst hy; exact told_any l h w
set_option maxHeartbeats 1000000 in
theorem cut_eq (l1 h1 l2 h2 : Nat) (w : World) (hl1 : l1 ≤ h1) (hh1 : h1 < 4294967296) (hl2 : l2 ≤ h2) (hh2 : h2 < 4294967296) (hc : nmax l1 l2 ≤ nmin h1 h2) :
    Calls Tryz.prog 129 #[.int .i64 1, .complex .f64 (fl l1) (fl h1), .complex .f64 (fl l2) (fl h2)] w fun e w' => e = .returned (.tuple #[.complex .f64 (fl (nmax l1 l2)) (fl (nmin h1 h2)), .bool true]) ∧ Bel w w' := by
  have HB := Bel.refl w
  go_enter Tryz.func129, Tryz.ntmps129
  go_wp2_with (first | (go_at_call 91; refine (of_any _ _ _ (by with_reducible assumption) (by with_reducible assumption)).mono ?_; rintro e w1 ⟨rfl, rfl⟩) | (go_at_call 152; refine (fit_at 1 0 _ _ _ (by rfl) (by rfl) (by omega) (by omega)).mono ?_; rintro e w2 ⟨rfl, hb2⟩) | (go_at_call 148; refine (told_any _ _ _).mono ?_; rintro e w3 ⟨rfl, hb3⟩))
  go_region
  all_goals go_wp2_with (first | (go_at_call 91; refine (of_any _ _ _ (by with_reducible assumption) (by with_reducible assumption)).mono ?_; rintro e w1 ⟨rfl, rfl⟩) | (go_at_call 152; refine (fit_at 1 0 _ _ _ (by rfl) (by rfl) (by omega) (by omega)).mono ?_; rintro e w2 ⟨rfl, hb2⟩) | (go_at_call 148; refine (told_any _ _ _).mono ?_; rintro e w3 ⟨rfl, hb3⟩))
  all_goals go_ret2
  all_goals exact ⟨by simp, Bel.trans (by repeat (first | (with_reducible exact HB) | (with_reducible refine Bel.setCell ?_ (by first | (simp; done) | (simp; omega)) _) | apply Bel.alloc | apply Bel.drew | apply Bel.drewN)) hb3⟩
set_option maxHeartbeats 1000000 in
theorem cut_eqN (l1 h1 l2 h2 : Nat) (w : World) (hl1 : l1 ≤ h1) (hh1 : h1 < 4294967296) (hl2 : l2 ≤ h2) (hh2 : h2 < 4294967296) (hc : ¬ nmax l1 l2 ≤ nmin h1 h2) :
    Calls Tryz.prog 129 #[.int .i64 1, .complex .f64 (fl l1) (fl h1), .complex .f64 (fl l2) (fl h2)] w fun e w' => e = .returned (.tuple #[.complex .f64 (fl 0) (fl 4294967295), .bool false]) ∧ Bel w w' := by
  have HB := Bel.refl w
  go_enter Tryz.func129, Tryz.ntmps129
  go_wp2_with (first | (go_at_call 91; refine (of_any _ _ _ (by with_reducible assumption) (by with_reducible assumption)).mono ?_; rintro e w1 ⟨rfl, rfl⟩) | (go_at_call 152; refine (fit_at 1 0 _ _ _ (by rfl) (by rfl) (by omega) (by omega)).mono ?_; rintro e w2 ⟨rfl, hb2⟩) | (go_at_call 148; refine (told_any _ _ _).mono ?_; rintro e w3 ⟨rfl, hb3⟩))
  go_region
  all_goals go_wp2_with (first | (go_at_call 91; refine (of_any _ _ _ (by with_reducible assumption) (by with_reducible assumption)).mono ?_; rintro e w1 ⟨rfl, rfl⟩) | (go_at_call 152; refine (fit_at 1 0 _ _ _ (by rfl) (by rfl) (by omega) (by omega)).mono ?_; rintro e w2 ⟨rfl, hb2⟩) | (go_at_call 148; refine (told_any _ _ _).mono ?_; rintro e w3 ⟨rfl, hb3⟩))
  all_goals go_ret2
  all_goals exact ⟨by simp [fitS], Bel.trans (Bel.trans (by repeat (first | (with_reducible exact HB) | (with_reducible refine Bel.setCell ?_ (by first | (simp; done) | (simp; omega)) _) | apply Bel.alloc | apply Bel.drew | apply Bel.drewN)) hb2) hb3⟩
set_option maxHeartbeats 1000000 in
theorem cut_ge (l1 h1 l2 h2 : Nat) (w : World) (hl1 : l1 ≤ h1) (hh1 : h1 < 4294967296) (hl2 : l2 ≤ h2) (hh2 : h2 < 4294967296) (hc : nmax l1 l2 ≤ h1) :
    Calls Tryz.prog 129 #[.int .i64 4, .complex .f64 (fl l1) (fl h1), .complex .f64 (fl l2) (fl h2)] w fun e w' => e = .returned (.tuple #[.complex .f64 (fl (nmax l1 l2)) (fl h1), .bool true]) ∧ Bel w w' := by
  have HB := Bel.refl w
  go_enter Tryz.func129, Tryz.ntmps129
  go_wp2_with (first | (go_at_call 91; refine (of_any _ _ _ (by with_reducible assumption) (by with_reducible assumption)).mono ?_; rintro e w1 ⟨rfl, rfl⟩) | (go_at_call 152; refine (fit_at 1 0 _ _ _ (by rfl) (by rfl) (by omega) (by omega)).mono ?_; rintro e w2 ⟨rfl, hb2⟩) | (go_at_call 148; refine (told_any _ _ _).mono ?_; rintro e w3 ⟨rfl, hb3⟩))
  all_goals go_ret2
  all_goals exact ⟨by simp, Bel.trans (by repeat (first | (with_reducible exact HB) | (with_reducible refine Bel.setCell ?_ (by first | (simp; done) | (simp; omega)) _) | apply Bel.alloc | apply Bel.drew | apply Bel.drewN)) hb3⟩
set_option maxHeartbeats 1000000 in
theorem cut_geN (l1 h1 l2 h2 : Nat) (w : World) (hl1 : l1 ≤ h1) (hh1 : h1 < 4294967296) (hl2 : l2 ≤ h2) (hh2 : h2 < 4294967296) (hc : ¬ nmax l1 l2 ≤ h1) :
    Calls Tryz.prog 129 #[.int .i64 4, .complex .f64 (fl l1) (fl h1), .complex .f64 (fl l2) (fl h2)] w fun e w' => e = .returned (.tuple #[.complex .f64 (fl 0) (fl 4294967295), .bool false]) ∧ Bel w w' := by
  have HB := Bel.refl w
  have hc' : h1 < nmax l1 l2 := by omega
  go_enter Tryz.func129, Tryz.ntmps129
  go_wp2_with (first | (go_at_call 91; refine (of_any _ _ _ (by with_reducible assumption) (by with_reducible assumption)).mono ?_; rintro e w1 ⟨rfl, rfl⟩) | (go_at_call 152; refine (fit_at 1 0 _ _ _ (by rfl) (by rfl) (by omega) (by omega)).mono ?_; rintro e w2 ⟨rfl, hb2⟩) | (go_at_call 148; refine (told_any _ _ _).mono ?_; rintro e w3 ⟨rfl, hb3⟩))
  all_goals go_ret2
  all_goals exact ⟨by simp [fitS], Bel.trans (Bel.trans (by repeat (first | (with_reducible exact HB) | (with_reducible refine Bel.setCell ?_ (by first | (simp; done) | (simp; omega)) _) | apply Bel.alloc | apply Bel.drew | apply Bel.drewN)) hb2) hb3⟩
set_option maxHeartbeats 1000000 in
theorem cut_lt (l1 h1 l2 h2 : Nat) (w : World) (hl1 : l1 ≤ h1) (hh1 : h1 < 4294967296) (hl2 : l2 ≤ h2) (hh2 : h2 < 4294967296) (hd : 0 < h2) (hc : l1 ≤ nmin h1 (h2 - 1)) :
    Calls Tryz.prog 129 #[.int .i64 3, .complex .f64 (fl l1) (fl h1), .complex .f64 (fl l2) (fl h2)] w fun e w' => e = .returned (.tuple #[.complex .f64 (fl l1) (fl (nmin h1 (h2 - 1))), .bool true]) ∧ Bel w w' := by
  have HB := Bel.refl w
  have f1 : (0 : Int) < (h2 : Int) := by omega
  have f2 : (h2 : Int) - 1 = ((h2 - 1 : Nat) : Int) := by omega
  go_enter Tryz.func129, Tryz.ntmps129
  go_wp2_with (first | (go_at_call 91; refine (of_any _ _ _ (by with_reducible assumption) (by with_reducible assumption)).mono ?_; rintro e w1 ⟨rfl, rfl⟩) | (go_at_call 152; refine (fit_at 1 0 _ _ _ (by rfl) (by rfl) (by omega) (by omega)).mono ?_; rintro e w2 ⟨rfl, hb2⟩) | (go_at_call 148; refine (told_any _ _ _).mono ?_; rintro e w3 ⟨rfl, hb3⟩))
  all_goals go_ret2
  all_goals exact ⟨by simp, Bel.trans (by repeat (first | (with_reducible exact HB) | (with_reducible refine Bel.setCell ?_ (by first | (simp; done) | (simp; omega)) _) | apply Bel.alloc | apply Bel.drew | apply Bel.drewN)) hb3⟩
set_option maxHeartbeats 1000000 in
theorem cut_ltN (l1 h1 l2 h2 : Nat) (w : World) (hl1 : l1 ≤ h1) (hh1 : h1 < 4294967296) (hl2 : l2 ≤ h2) (hh2 : h2 < 4294967296) (hd : 0 < h2) (hc : ¬ l1 ≤ nmin h1 (h2 - 1)) :
    Calls Tryz.prog 129 #[.int .i64 3, .complex .f64 (fl l1) (fl h1), .complex .f64 (fl l2) (fl h2)] w fun e w' => e = .returned (.tuple #[.complex .f64 (fl 0) (fl 4294967295), .bool false]) ∧ Bel w w' := by
  have HB := Bel.refl w
  have f1 : (0 : Int) < (h2 : Int) := by omega
  have f2 : (h2 : Int) - 1 = ((h2 - 1 : Nat) : Int) := by omega
  have hc' : nmin h1 (h2 - 1) < l1 := by omega
  go_enter Tryz.func129, Tryz.ntmps129
  go_wp2_with (first | (go_at_call 91; refine (of_any _ _ _ (by with_reducible assumption) (by with_reducible assumption)).mono ?_; rintro e w1 ⟨rfl, rfl⟩) | (go_at_call 152; refine (fit_at 1 0 _ _ _ (by rfl) (by rfl) (by omega) (by omega)).mono ?_; rintro e w2 ⟨rfl, hb2⟩) | (go_at_call 148; refine (told_any _ _ _).mono ?_; rintro e w3 ⟨rfl, hb3⟩))
  all_goals go_ret2
  all_goals exact ⟨by simp [fitS], Bel.trans (Bel.trans (by repeat (first | (with_reducible exact HB) | (with_reducible refine Bel.setCell ?_ (by first | (simp; done) | (simp; omega)) _) | apply Bel.alloc | apply Bel.drew | apply Bel.drewN)) hb2) hb3⟩
set_option maxHeartbeats 1000000 in
theorem cut_ltZ (l1 h1 l2 h2 : Nat) (w : World) (hl1 : l1 ≤ h1) (hh1 : h1 < 4294967296) (hl2 : l2 ≤ h2) (hh2 : h2 < 4294967296) (hd : h2 = 0) :
    Calls Tryz.prog 129 #[.int .i64 3, .complex .f64 (fl l1) (fl h1), .complex .f64 (fl l2) (fl h2)] w fun e w' => e = .returned (.tuple #[.complex .f64 (fl 0) (fl 4294967295), .bool false]) ∧ Bel w w' := by
  have HB := Bel.refl w
  subst hd
  go_enter Tryz.func129, Tryz.ntmps129
  go_wp2_with (first | (go_at_call 91; refine (of_any _ _ _ (by with_reducible assumption) (by first | (with_reducible assumption) | decide)).mono ?_; rintro e w1 ⟨rfl, rfl⟩) | (go_at_call 152; refine (fit_at 1 0 _ _ _ (by rfl) (by rfl) (by omega) (by omega)).mono ?_; rintro e w2 ⟨rfl, hb2⟩) | (go_at_call 148; refine (told_any _ _ _).mono ?_; rintro e w3 ⟨rfl, hb3⟩))
  all_goals go_ret2
  all_goals exact ⟨by simp [fitS], Bel.trans (Bel.trans (by repeat (first | (with_reducible exact HB) | (with_reducible refine Bel.setCell ?_ (by first | (simp; done) | (simp; omega)) _) | apply Bel.alloc | apply Bel.drew | apply Bel.drewN)) hb2) hb3⟩
set_option maxHeartbeats 1000000 in
theorem cut_ne0 (l1 h1 l2 h2 : Nat) (w : World) (hl1 : l1 ≤ h1) (hh1 : h1 < 4294967296) (hl2 : l2 ≤ h2) (hh2 : h2 < 4294967296) (hd : ¬ l2 = h2) :
    Calls Tryz.prog 129 #[.int .i64 2, .complex .f64 (fl l1) (fl h1), .complex .f64 (fl l2) (fl h2)] w fun e w' => e = .returned (.tuple #[.complex .f64 (fl l1) (fl h1), .bool true]) ∧ Bel w w' := by
  have HB := Bel.refl w
  have f1 : ((l2 : Int) == (h2 : Int)) = false := by simp; omega
  go_enter Tryz.func129, Tryz.ntmps129
  go_wp2_with (first | (go_at_call 91; refine (of_any _ _ _ (by with_reducible assumption) (by with_reducible assumption)).mono ?_; rintro e w1 ⟨rfl, rfl⟩) | (go_at_call 152; refine (fit_at 1 0 _ _ _ (by rfl) (by rfl) (by omega) (by omega)).mono ?_; rintro e w2 ⟨rfl, hb2⟩) | (go_at_call 148; refine (told_any _ _ _).mono ?_; rintro e w3 ⟨rfl, hb3⟩))
  all_goals go_ret2
  all_goals exact ⟨by simp, Bel.trans (by repeat (first | (with_reducible exact HB) | (with_reducible refine Bel.setCell ?_ (by first | (simp; done) | (simp; omega)) _) | apply Bel.alloc | apply Bel.drew | apply Bel.drewN)) hb3⟩
set_option maxHeartbeats 1000000 in
theorem cut_ne1 (l1 h1 l2 h2 : Nat) (w : World) (hl1 : l1 ≤ h1) (hh1 : h1 < 4294967296) (hl2 : l2 ≤ h2) (hh2 : h2 < 4294967296) (hd : l2 = h2) (he : l1 = l2) (hf : h1 = l2) :
    Calls Tryz.prog 129 #[.int .i64 2, .complex .f64 (fl l1) (fl h1), .complex .f64 (fl l2) (fl h2)] w fun e w' => e = .returned (.tuple #[.complex .f64 (fl 0) (fl 4294967295), .bool false]) ∧ Bel w w' := by
  have HB := Bel.refl w
  subst hd
  subst he
  subst hf
  go_enter Tryz.func129, Tryz.ntmps129
  go_wp2_with (first | (go_at_call 91; refine (of_any _ _ _ (by with_reducible assumption) (by with_reducible assumption)).mono ?_; rintro e w1 ⟨rfl, rfl⟩) | (go_at_call 152; refine (fit_at 1 0 _ _ _ (by rfl) (by rfl) (by omega) (by omega)).mono ?_; rintro e w2 ⟨rfl, hb2⟩) | (go_at_call 148; refine (told_any _ _ _).mono ?_; rintro e w3 ⟨rfl, hb3⟩))
  all_goals go_ret2
  all_goals exact ⟨by simp [fitS], Bel.trans (Bel.trans (by repeat (first | (with_reducible exact HB) | (with_reducible refine Bel.setCell ?_ (by first | (simp; done) | (simp; omega)) _) | apply Bel.alloc | apply Bel.drew | apply Bel.drewN)) hb2) hb3⟩
set_option maxHeartbeats 1000000 in
theorem cut_ne2 (l1 h1 l2 h2 : Nat) (w : World) (hl1 : l1 ≤ h1) (hh1 : h1 < 4294967296) (hl2 : l2 ≤ h2) (hh2 : h2 < 4294967296) (hd : l2 = h2) (he : l1 = l2) (hf : ¬ h1 = l2) :
    Calls Tryz.prog 129 #[.int .i64 2, .complex .f64 (fl l1) (fl h1), .complex .f64 (fl l2) (fl h2)] w fun e w' => e = .returned (.tuple #[.complex .f64 (fl (l1 + 1)) (fl h1), .bool true]) ∧ Bel w w' := by
  have HB := Bel.refl w
  subst hd
  subst he
  have f1 : ((h1 : Int) == (l1 : Int)) = false := by simp; omega
  have f3 : ¬ (h1 : Int) < (l1 : Int) + 1 := by omega
  go_enter Tryz.func129, Tryz.ntmps129
  go_wp2_with (first | (go_at_call 91; refine (of_any _ _ _ (by with_reducible assumption) (by with_reducible assumption)).mono ?_; rintro e w1 ⟨rfl, rfl⟩) | (go_at_call 152; refine (fit_at 1 0 _ _ _ (by rfl) (by rfl) (by omega) (by omega)).mono ?_; rintro e w2 ⟨rfl, hb2⟩) | (go_at_call 148; refine (told_at (l1 + 1) h1 _ _ _ (by omega) (by rfl)).mono ?_; rintro e w3 ⟨rfl, hb3⟩))
  all_goals go_ret2
  all_goals exact ⟨by simp, Bel.trans (by repeat (first | (with_reducible exact HB) | (with_reducible refine Bel.setCell ?_ (by first | (simp; done) | (simp; omega)) _) | apply Bel.alloc | apply Bel.drew | apply Bel.drewN)) hb3⟩
set_option maxHeartbeats 1000000 in
theorem cut_ne3 (l1 h1 l2 h2 : Nat) (w : World) (hl1 : l1 ≤ h1) (hh1 : h1 < 4294967296) (hl2 : l2 ≤ h2) (hh2 : h2 < 4294967296) (hd : l2 = h2) (he : ¬ l1 = l2) (hf : h1 = l2) :
    Calls Tryz.prog 129 #[.int .i64 2, .complex .f64 (fl l1) (fl h1), .complex .f64 (fl l2) (fl h2)] w fun e w' => e = .returned (.tuple #[.complex .f64 (fl l1) (fl (h1 - 1)), .bool true]) ∧ Bel w w' := by
  have HB := Bel.refl w
  subst hd
  subst hf
  have f1 : ((l1 : Int) == (h1 : Int)) = false := by simp; omega
  have f2 : (h1 : Int) - 1 = ((h1 - 1 : Nat) : Int) := by omega
  have f3 : ¬ ((h1 - 1 : Nat) : Int) < (l1 : Int) := by omega
  go_enter Tryz.func129, Tryz.ntmps129
  go_wp2_with (first | (go_at_call 91; refine (of_any _ _ _ (by with_reducible assumption) (by with_reducible assumption)).mono ?_; rintro e w1 ⟨rfl, rfl⟩) | (go_at_call 152; refine (fit_at 1 0 _ _ _ (by rfl) (by rfl) (by omega) (by omega)).mono ?_; rintro e w2 ⟨rfl, hb2⟩) | (go_at_call 148; refine (told_any _ _ _).mono ?_; rintro e w3 ⟨rfl, hb3⟩))
  all_goals go_ret2
  all_goals exact ⟨by simp, Bel.trans (by repeat (first | (with_reducible exact HB) | (with_reducible refine Bel.setCell ?_ (by first | (simp; done) | (simp; omega)) _) | apply Bel.alloc | apply Bel.drew | apply Bel.drewN)) hb3⟩
set_option maxHeartbeats 1000000 in
theorem cut_ne4 (l1 h1 l2 h2 : Nat) (w : World) (hl1 : l1 ≤ h1) (hh1 : h1 < 4294967296) (hl2 : l2 ≤ h2) (hh2 : h2 < 4294967296) (hd : l2 = h2) (he : ¬ l1 = l2) (hf : ¬ h1 = l2) :
    Calls Tryz.prog 129 #[.int .i64 2, .complex .f64 (fl l1) (fl h1), .complex .f64 (fl l2) (fl h2)] w fun e w' => e = .returned (.tuple #[.complex .f64 (fl l1) (fl h1), .bool true]) ∧ Bel w w' := by
  have HB := Bel.refl w
  subst hd
  have f1 : ((l1 : Int) == (l2 : Int)) = false := by simp; omega
  have f2 : ((h1 : Int) == (l2 : Int)) = false := by simp; omega
  go_enter Tryz.func129, Tryz.ntmps129
  go_wp2_with (first | (go_at_call 91; refine (of_any _ _ _ (by with_reducible assumption) (by with_reducible assumption)).mono ?_; rintro e w1 ⟨rfl, rfl⟩) | (go_at_call 152; refine (fit_at 1 0 _ _ _ (by rfl) (by rfl) (by omega) (by omega)).mono ?_; rintro e w2 ⟨rfl, hb2⟩) | (go_at_call 148; refine (told_any _ _ _).mono ?_; rintro e w3 ⟨rfl, hb3⟩))
  all_goals go_ret2
  all_goals exact ⟨by simp, Bel.trans (by repeat (first | (with_reducible exact HB) | (with_reducible refine Bel.setCell ?_ (by first | (simp; done) | (simp; omega)) _) | apply Bel.alloc | apply Bel.drew | apply Bel.drewN)) hb3⟩
set_option maxHeartbeats 1000000 in
theorem cut_oth (l1 h1 l2 h2 : Nat) (w : World) (hl1 : l1 ≤ h1) (hh1 : h1 < 4294967296) (hl2 : l2 ≤ h2) (hh2 : h2 < 4294967296) (c : Int) (k1 : ¬ c = 1) (k2 : ¬ c = 2) (k3 : ¬ c = 3) (k4 : ¬ c = 4) :
    Calls Tryz.prog 129 #[.int .i64 c, .complex .f64 (fl l1) (fl h1), .complex .f64 (fl l2) (fl h2)] w fun e w' => e = .returned (.tuple #[.complex .f64 (fl l1) (fl h1), .bool true]) ∧ Bel w w' := by
  have HB := Bel.refl w
  have g1 : (c == 1) = false := by simp [k1]
  have g2 : (c == 2) = false := by simp [k2]
  have g3 : (c == 3) = false := by simp [k3]
  have g4 : (c == 4) = false := by simp [k4]
  go_enter Tryz.func129, Tryz.ntmps129
  go_wp2_with (first | (go_at_call 91; refine (of_any _ _ _ (by with_reducible assumption) (by with_reducible assumption)).mono ?_; rintro e w1 ⟨rfl, rfl⟩) | (go_at_call 152; refine (fit_at 1 0 _ _ _ (by rfl) (by rfl) (by omega) (by omega)).mono ?_; rintro e w2 ⟨rfl, hb2⟩) | (go_at_call 148; refine (told_any _ _ _).mono ?_; rintro e w3 ⟨rfl, hb3⟩))
  all_goals go_ret2
  all_goals exact ⟨by simp, Bel.trans (by repeat (first | (with_reducible exact HB) | (with_reducible refine Bel.setCell ?_ (by first | (simp; done) | (simp; omega)) _) | apply Bel.alloc | apply Bel.drew | apply Bel.drewN)) hb3⟩
end Go.Proofs.YtebdnobgdimdoaaGreat
set_option linter.unusedVariables false
set_option linter.unusedSimpArgs false
namespace Go.Proofs.YtebdnobgdimdoaaGreat
open Go.RowKit
/-- Bounds, from the first word up to the second. -/
abbrev Bd := Nat × Nat
def bdOk (b : Bd) : Prop := b.1 ≤ b.2 ∧ b.2 < 4294967296
def bdAll : Bd := (0, 4294967295)
theorem bdAll_ok : bdOk bdAll := ⟨by decide, by decide⟩
/-- What is known of registers: of those that are set, their bounds. -/
abbrev ShD := Nat → Option Bd
def shOk (s : ShD) : Prop := ∀ k b, s k = some b → bdOk b
def shGet (s : ShD) (n : Int) : Option Bd := if 0 ≤ n ∧ n < 8 then s n.toNat else none
def shPut (s : ShD) (n : Int) (b : Bd) : ShD := if 0 ≤ n ∧ n < 8 then fun k => if (k : Int) = n then some b else s k else s
def shWord (s : ShD) (i : InstD) : Option Bd := if i.reg = true then shGet s i.src else some (i.imm.toNat, i.imm.toNat)
def shBack (s : ShD) : ShD := fun k => if k = 0 then some bdAll else if k ≤ 5 then none else s k
def joinB (a b : Bd) : Bd := (nmin a.1 b.1, nmax a.2 b.2)
def shJoin (s t : ShD) : ShD := fun k => match s k, t k with
  | some a, some b => some (joinB a b)
  | _, _ => none
def shNew (args : Nat) : ShD := fun k => if 1 ≤ k ∧ k ≤ args then some bdAll else none
theorem shGet_ok {s : ShD} (h : shOk s) {n : Int} {b : Bd} (e : shGet s n = some b) : bdOk b := by
  unfold shGet at e
  split at e
  · exact h _ _ e
  · cases e
theorem shPut_ok {s : ShD} (h : shOk s) {n : Int} {b : Bd} (hb : bdOk b) : shOk (shPut s n b) := by
  unfold shPut
  split
  · intro k c e
    by_cases hk : (k : Int) = n
    · simp only [hk, if_true] at e
      cases e; exact hb
    · simp only [hk, if_false] at e
      exact h _ _ e
  · exact h
theorem shBack_ok {s : ShD} (h : shOk s) : shOk (shBack s) := by
  intro k c e
  unfold shBack at e
  split at e
  · cases e; exact bdAll_ok
  · split at e
    · cases e
    · exact h _ _ e
theorem joinB_ok {a b : Bd} (h : bdOk a) (k : bdOk b) : bdOk (joinB a b) := by
  obtain ⟨h1, h2⟩ := h
  obtain ⟨k1, k2⟩ := k
  unfold bdOk joinB nmin nmax
  simp only
  omega
theorem shJoin_ok {s t : ShD} (h : shOk s) (k : shOk t) : shOk (shJoin s t) := by
  intro i c e
  unfold shJoin at e
  cases hs : s i with
  | none => simp [hs] at e
  | some a =>
    cases ht : t i with
    | none => simp [hs, ht] at e
    | some b =>
      simp only [hs, ht, Option.some.injEq] at e
      subst e
      exact joinB_ok (h _ _ hs) (k _ _ ht)
theorem shNew_ok (args : Nat) : shOk (shNew args) := by
  intro k c e
  unfold shNew at e
  split at e
  · cases e; exact bdAll_ok
  · cases e
/-- A map's schema. -/
structure SchD where
  kind : Int
  cap : Int
  words : Int
  ver : Int
deriving DecidableEq, Inhabited
def schMay (s : SchD) : Bool := decide (0 ≤ s.kind ∧ s.kind ≤ 3 ∧ 1 ≤ s.cap ∧ s.cap ≤ 16 ∧ 1 ≤ s.words ∧ s.words ≤ (if s.kind = 3 then 1 else 4) ∧ 0 ≤ s.ver ∧ s.ver ≤ 1000)
def hArgs (n : Int) : Int := if n = 0 then 3 else if n = 1 then 4 else if n = 2 then 2 else if n = 3 then 2 else if n = 4 then 0 else if n = 5 then 2 else -1
def hFits (n : Int) (s : SchD) : Bool := if n = 5 then schMay s && decide (s.kind = 3) else if n = 0 ∨ n = 1 ∨ n = 2 ∨ n = 3 then schMay s && decide (s.kind ≠ 3) else false
/-- What is known at each place of a function: nothing, if it is not reached. -/
abbrev InsD := List (Option ShD)
def vTo (ins : InsD) (k : Nat) (s : ShD) : Option InsD := if h : k < ins.length then some (ins.set k (some (match ins[k] with
  | some t => shJoin t s
  | none => s))) else none
def vWay (ins : InsD) (k : Nat) (s : ShD) (d : Int) (c : Nat × Nat × Bool) : Option InsD := if c.2.2 = true then vTo ins k (shPut s d (c.1, c.2.1)) else some ins
/-- Which condition holds where another one does not. -/
def vElse (c : Int) : Int := if c = 1 then 2 else if c = 2 then 1 else if c = 3 then 4 else if c = 4 then 3 else 0
def vHanded (s : ShD) (many : Nat) : Bool := (List.range many).all fun k => (shGet s ((k : Int) + 1)).isSome
def vHelp (s : ShD) (n : Int) (ls : List SchD) : Bool :=
  if n = 4 then true else
  match shGet s 1 with
  | none => false
  | some b => decide (b.1 = b.2 ∧ b.1 < ls.length) && hFits n (ls[b.1]!) && (if n = 0 ∨ n = 1 then (match shGet s 3 with
    | none => false
    | some c => decide ((c.2 : Int) < (ls[b.1]!).words)) else true)
def vStep (p : List FnD) (fn : Nat) (ls : List SchD) (k : Nat) (i : InstD) (s : ShD) (ins : InsD) : Option InsD :=
  if i.op = 0 then
    (shWord s i).bind fun b => (if i.fn = 0 then some bdAll else shGet s i.dst).bind fun own => vTo ins (k + 1) (shPut s i.dst (aluS i.fn.toNat own.1 own.2 b.1 b.2))
  else if i.op = 1 then
    if i.fn = 0 then vTo ins (k + i.off.toNat + 1) s
    else (shGet s i.dst).bind fun own => (shWord s i).bind fun b => (vWay ins (k + i.off.toNat + 1) s i.dst (cutS i.fn own.1 own.2 b.1 b.2)).bind fun ins1 => vWay ins1 (k + 1) s i.dst (cutS (vElse i.fn) own.1 own.2 b.1 b.2)
  else if i.op = 2 then
    (shWord s i).bind fun b => if b.2 < 4 then vTo ins (k + 1) (shPut s i.dst bdAll) else none
  else if i.op = 3 then
    (shWord s i).bind fun b => if b.2 < 16 then vTo ins (k + 1) (shPut s i.dst bdAll) else none
  else if i.op = 4 then
    (shGet s i.dst).bind fun _ => (shWord s i).bind fun b => if b.2 < 16 then vTo ins (k + 1) s else none
  else if i.op = 5 then
    if 0 ≤ hArgs i.imm ∧ vHanded s (hArgs i.imm).toNat = true ∧ vHelp s i.imm ls = true then vTo ins (k + 1) (shBack s) else none
  else if i.op = 6 then
    if i.imm < p.length ∧ (fn : Int) < i.imm ∧ vHanded s (((p.map FnD.args).getD i.imm.toNat 0).toNat) = true then vTo ins (k + 1) (shBack s) else none
  else (shGet s 0).bind fun _ => some ins
/-- The first places are gone through. -/
def vUpto (p : List FnD) (fn : Nat) (ls : List SchD) (l : List InstD) (args : Nat) : Nat → Option InsD
  | 0 => some ((List.replicate l.length none).set 0 (some (shNew args)))
  | k + 1 => (vUpto p fn ls l args k).bind fun ins => match ins.getD k none with
    | some s => vStep p fn ls k l[k]! s ins
    | none => some ins
def vShapes (p : List FnD) (fn : Int) (ls : List SchD) : Option InsD × Int :=
  if progMay p = true ∧ ls.length ≤ 4 ∧ ls.all schMay = true then
    if 0 ≤ fn ∧ fn < p.length then
      match vUpto p fn.toNat ls ((p.map FnD.code).getD fn.toNat []) ((p.map FnD.args).getD fn.toNat 0).toNat ((p.map FnD.code).getD fn.toNat []).length with
      | some ins => (some ins, 0)
      | none => (none, 8)
    else (none, 3)
  else (none, 1)
def insOk (ins : InsD) : Prop := ∀ s ∈ ins, ∀ t, s = some t → shOk t
theorem vTo_ok {ins ins' : InsD} {k : Nat} {s : ShD} (h : insOk ins) (hs : shOk s) (e : vTo ins k s = some ins') : insOk ins' ∧ ins'.length = ins.length := by
  unfold vTo at e
  split at e
  · rename_i hk
    cases e
    refine ⟨fun x hx t ht => ?_, List.length_set⟩
    rcases List.mem_or_eq_of_mem_set hx with hx | hx
    · exact h x hx t ht
    · subst hx
      cases ht
      cases hq : ins[k] with
      | none => exact hs
      | some u => exact shJoin_ok (h _ (List.getElem_mem hk) u hq) hs
  · cases e
end Go.Proofs.YtebdnobgdimdoaaGreat
set_option linter.unusedVariables false
set_option linter.unusedSimpArgs false
namespace Go.Proofs.YtebdnobgdimdoaaGreat
open Go.RowKit
theorem cut_any (c : Int) (l1 h1 l2 h2 : Nat) (w : World) (hl1 : l1 ≤ h1) (hh1 : h1 < 4294967296) (hl2 : l2 ≤ h2) (hh2 : h2 < 4294967296) :
    Calls Tryz.prog 129 #[.int .i64 c, .complex .f64 (fl l1) (fl h1), .complex .f64 (fl l2) (fl h2)] w fun e w' => e = .returned (.tuple #[.complex .f64 (fl (cutS c l1 h1 l2 h2).1) (fl (cutS c l1 h1 l2 h2).2.1), .bool (cutS c l1 h1 l2 h2).2.2]) ∧ Bel w w' := by
  unfold cutS
  split
  · subst_vars; split
    · exact cut_eq l1 h1 l2 h2 w hl1 hh1 hl2 hh2 ‹_›
    · exact cut_eqN l1 h1 l2 h2 w hl1 hh1 hl2 hh2 ‹_›
  split
  · subst c; split
    · split
      · split
        · exact cut_ne1 l1 h1 l2 h2 w hl1 hh1 hl2 hh2 ‹_› ‹_› ‹_›
        · exact cut_ne2 l1 h1 l2 h2 w hl1 hh1 hl2 hh2 ‹_› ‹_› ‹_›
      · split
        · exact cut_ne3 l1 h1 l2 h2 w hl1 hh1 hl2 hh2 ‹_› ‹_› ‹_›
        · exact cut_ne4 l1 h1 l2 h2 w hl1 hh1 hl2 hh2 ‹_› ‹_› ‹_›
    · exact cut_ne0 l1 h1 l2 h2 w hl1 hh1 hl2 hh2 ‹_›
  split
  · subst c; split
    · split
      · exact cut_lt l1 h1 l2 h2 w hl1 hh1 hl2 hh2 ‹_› ‹_›
      · exact cut_ltN l1 h1 l2 h2 w hl1 hh1 hl2 hh2 ‹_› ‹_›
    · exact cut_ltZ l1 h1 l2 h2 w hl1 hh1 hl2 hh2 (by omega)
  split
  · subst c; split
    · exact cut_ge l1 h1 l2 h2 w hl1 hh1 hl2 hh2 ‹_›
    · exact cut_geN l1 h1 l2 h2 w hl1 hh1 hl2 hh2 ‹_›
  · exact cut_oth l1 h1 l2 h2 w hl1 hh1 hl2 hh2 c ‹_› ‹_› ‹_› ‹_›
theorem cut_at (c : Int) (l1 h1 l2 h2 p q : Nat) (b : Bool) (w : World) (hr : cutS c l1 h1 l2 h2 = (p, q, b)) (hl1 : l1 ≤ h1) (hh1 : h1 < 4294967296) (hl2 : l2 ≤ h2) (hh2 : h2 < 4294967296) :
    Calls Tryz.prog 129 #[.int .i64 c, .complex .f64 (fl l1) (fl h1), .complex .f64 (fl l2) (fl h2)] w fun e w' => e = .returned (.tuple #[.complex .f64 (fl p) (fl q), .bool b]) ∧ Bel w w' := by
  have := cut_any c l1 h1 l2 h2 w hl1 hh1 hl2 hh2
  rw [hr] at this; exact this
theorem balu_at (op l1 h1 l2 h2 p q : Nat) (x : Int) (w : World) (hx : x = op) (hr : aluS op l1 h1 l2 h2 = (p, q)) (hop : op < 11) (hl1 : l1 ≤ h1) (hh1 : h1 < 4294967296) (hl2 : l2 ≤ h2) (hh2 : h2 < 4294967296) :
    Calls Tryz.prog 126 #[.int .i64 x, .complex .f64 (fl l1) (fl h1), .complex .f64 (fl l2) (fl h2)] w fun e w' => e = .returned (.complex .f64 (fl p) (fl q)) ∧ Bel w w' := by
  have := balu_any op l1 h1 l2 h2 w hop hl1 hh1 hl2 hh2
  rw [hr] at this; subst hx; exact this
end Go.Proofs.YtebdnobgdimdoaaGreat
set_option linter.unusedVariables false
set_option linter.unusedSimpArgs false
namespace Go.Proofs.YtebdnobgdimdoaaGreat
open Go.RowKit
theorem u32_nat {a : Nat} (h : a < 4294967296) : U32 (a : Int) := ⟨by omega, by omega⟩
/-- a word v is within the two bounds A -/
def Within (A : Nat × Nat) (v : Int) : Prop := A.1 ≤ A.2 ∧ A.2 < 4294967296 ∧ (A.1 : Int) ≤ v ∧ v ≤ A.2
theorem within_all {v : Int} (h : U32 v) : Within (0, 4294967295) v := ⟨by decide, by decide, h.lo, by have := h.hi; simp; omega⟩
theorem fit_within {a b n : Nat} (h1 : a ≤ n) (h2 : n ≤ b) : Within (fitS a b) (((n % 4294967296 : Nat)) : Int) := by
  unfold fitS
  split
  · exact within_all (u32_nat (Nat.mod_lt _ (by decide)))
  · refine ⟨?_, ?_, ?_, ?_⟩ <;> simp <;> omega
theorem law_0 {p1 q1 p2 q2 x y : Nat} (h1 : p1 ≤ x) (h2 : x ≤ q1) (h3 : p2 ≤ y) (h4 : y ≤ q2) (hq1 : q1 < 4294967296) (hq2 : q2 < 4294967296) : Within (aluS 0 p1 q1 p2 q2) (aluI 0 x y) := by
  rw [aluI_0]; refine ⟨?_, ?_, ?_, ?_⟩ <;> simp [aluS] <;> omega
theorem law_1 {p1 q1 p2 q2 x y : Nat} (h1 : p1 ≤ x) (h2 : x ≤ q1) (h3 : p2 ≤ y) (h4 : y ≤ q2) (hq1 : q1 < 4294967296) (hq2 : q2 < 4294967296) : Within (aluS 1 p1 q1 p2 q2) (aluI 1 x y) := by
  rw [aluI_1, show ((x : Int) + y) % 4294967296 = (((x + y) % 4294967296 : Nat) : Int) by omega]
  exact fit_within (by omega) (by omega)
theorem law_2 {p1 q1 p2 q2 x y : Nat} (h1 : p1 ≤ x) (h2 : x ≤ q1) (h3 : p2 ≤ y) (h4 : y ≤ q2) (hq1 : q1 < 4294967296) (hq2 : q2 < 4294967296) : Within (aluS 2 p1 q1 p2 q2) (aluI 2 x y) := by
  have hu := aluI_u32 2 (u32_nat (a := x) (by omega)) (u32_nat (a := y) (by omega))
  show Within (if p1 < q2 then (0, 4294967295) else (p1 - q2, q1 - p2)) _
  split
  · exact within_all hu
  · rw [aluI_2]
    refine ⟨?_, ?_, ?_, ?_⟩ <;> simp <;> omega
theorem law_3 {p1 q1 p2 q2 x y : Nat} (h1 : p1 ≤ x) (h2 : x ≤ q1) (h3 : p2 ≤ y) (h4 : y ≤ q2) (hq1 : q1 < 4294967296) (hq2 : q2 < 4294967296) : Within (aluS 3 p1 q1 p2 q2) (aluI 3 x y) := by
  rw [aluI_3, show ((x : Int) * y) % 4294967296 = (((x * y) % 4294967296 : Nat) : Int) by simp]
  exact fit_within (Nat.mul_le_mul h1 h3) (Nat.mul_le_mul h2 h4)
theorem law_4 {p1 q1 p2 q2 x y : Nat} (h1 : p1 ≤ x) (h2 : x ≤ q1) (h3 : p2 ≤ y) (h4 : y ≤ q2) (hq1 : q1 < 4294967296) (hq2 : q2 < 4294967296) : Within (aluS 4 p1 q1 p2 q2) (aluI 4 x y) := by
  show Within (if p2 = 0 then (0, q1) else (p1 / q2, q1 / p2)) _
  have e : aluI 4 x y = ((x / y : Nat) : Int) := by
    rw [aluI_4]
    split
    · have : y = 0 := by omega
      subst this; simp
    · simp
  have hd : x / y ≤ x := Nat.div_le_self _ _
  rw [e]
  split
  · generalize x / y = d at *
    refine ⟨?_, ?_, ?_, ?_⟩ <;> simp only <;> omega
  · have a1 : p1 / q2 ≤ x / y := Nat.div_le_div h1 h4 (by omega)
    have a2 : x / y ≤ q1 / p2 := Nat.div_le_div h2 h3 (by omega)
    have a3 : q1 / p2 ≤ q1 := Nat.div_le_self _ _
    refine ⟨?_, ?_, ?_, ?_⟩ <;> simp only <;> omega
theorem law_5 {p1 q1 p2 q2 x y : Nat} (h1 : p1 ≤ x) (h2 : x ≤ q1) (h3 : p2 ≤ y) (h4 : y ≤ q2) (hq1 : q1 < 4294967296) (hq2 : q2 < 4294967296) : Within (aluS 5 p1 q1 p2 q2) (aluI 5 x y) := by
  show Within (if q1 < p2 then (p1, q1) else if p2 = 0 then (0, q1) else (0, nmin q1 (q2 - 1))) _
  have e : aluI 5 x y = ((x % y : Nat) : Int) := by
    rw [aluI_5]
    split
    · have : y = 0 := by omega
      subst this; simp
    · simp
  have hd : x % y ≤ x := Nat.mod_le _ _
  rw [e]
  split
  · rw [Nat.mod_eq_of_lt (by omega)]
    refine ⟨?_, ?_, ?_, ?_⟩ <;> simp only <;> omega
  · split
    · refine ⟨?_, ?_, ?_, ?_⟩ <;> simp only <;> omega
    · have := Nat.mod_lt x (show 0 < y by omega)
      refine ⟨?_, ?_, ?_, ?_⟩ <;> simp only [nmin] <;> omega
theorem law_6 {p1 q1 p2 q2 x y : Nat} (h1 : p1 ≤ x) (h2 : x ≤ q1) (h3 : p2 ≤ y) (h4 : y ≤ q2) (hq1 : q1 < 4294967296) (hq2 : q2 < 4294967296) : Within (aluS 6 p1 q1 p2 q2) (aluI 6 x y) := by
  rw [aluI_and (u32_nat (by omega)) (u32_nat (by omega))]
  simp only [Int.toNat_natCast]
  have a1 : x &&& y ≤ x := Nat.and_le_left
  have a2 : x &&& y ≤ y := Nat.and_le_right
  refine ⟨?_, ?_, ?_, ?_⟩ <;> simp only [aluS, nmin] <;> omega
theorem or_lt_pow {p1 q1 p2 q2 x y : Nat} (h1 : p1 ≤ x) (h2 : x ≤ q1) (h3 : p2 ≤ y) (h4 : y ≤ q2) (hq1 : q1 < 4294967296) (hq2 : q2 < 4294967296) : x ||| y < powS q1 q2 ∧ x ^^^ y < powS q1 q2 := by
  obtain ⟨k, hk⟩ := powS_pow q1 q2
  have hg := powS_gt q1 q2
  rw [hk] at hg ⊢
  exact ⟨Nat.or_lt_two_pow (by omega) (by omega), Nat.xor_lt_two_pow (by omega) (by omega)⟩
theorem law_7 {p1 q1 p2 q2 x y : Nat} (h1 : p1 ≤ x) (h2 : x ≤ q1) (h3 : p2 ≤ y) (h4 : y ≤ q2) (hq1 : q1 < 4294967296) (hq2 : q2 < 4294967296) : Within (aluS 7 p1 q1 p2 q2) (aluI 7 x y) := by
  rw [aluI_or (u32_nat (by omega)) (u32_nat (by omega))]
  simp only [Int.toNat_natCast]
  have a1 : x ≤ x ||| y := Nat.left_le_or
  have a2 : y ≤ x ||| y := Nat.right_le_or
  have a3 := (or_lt_pow h1 h2 h3 h4 hq1 hq2).1
  have a4 := powS_le hq1 hq2
  have a5 := powS_one q1 q2
  refine ⟨?_, ?_, ?_, ?_⟩ <;> simp only [aluS, nmax] <;> omega
theorem law_8 {p1 q1 p2 q2 x y : Nat} (h1 : p1 ≤ x) (h2 : x ≤ q1) (h3 : p2 ≤ y) (h4 : y ≤ q2) (hq1 : q1 < 4294967296) (hq2 : q2 < 4294967296) : Within (aluS 8 p1 q1 p2 q2) (aluI 8 x y) := by
  rw [aluI_xor (u32_nat (by omega)) (u32_nat (by omega))]
  simp only [Int.toNat_natCast]
  have a3 := (or_lt_pow h1 h2 h3 h4 hq1 hq2).2
  have a4 := powS_le hq1 hq2
  have a5 := powS_one q1 q2
  refine ⟨?_, ?_, ?_, ?_⟩ <;> simp only [aluS] <;> omega
theorem law_9 {p1 q1 p2 q2 x y : Nat} (h1 : p1 ≤ x) (h2 : x ≤ q1) (h3 : p2 ≤ y) (h4 : y ≤ q2) (hq1 : q1 < 4294967296) (hq2 : q2 < 4294967296) : Within (aluS 9 p1 q1 p2 q2) (aluI 9 x y) := by
  have hu := aluI_u32 9 (u32_nat (a := x) (by omega)) (u32_nat (a := y) (by omega))
  show Within (if p2 = q2 then fitS (p1 * 2 ^ (p2 % 32)) (q1 * 2 ^ (p2 % 32)) else (0, 4294967295)) _
  split
  · obtain rfl : y = p2 := by omega
    have e : aluI 9 x y = ((x * 2 ^ (y % 32) % 4294967296 : Nat) : Int) := by
      rw [aluI_9, show ((y : Int) % 32).toNat = y % 32 by omega]; simp
    rw [e]
    exact fit_within (Nat.mul_le_mul_right _ h1) (Nat.mul_le_mul_right _ h2)
  · exact within_all hu
theorem law_10 {p1 q1 p2 q2 x y : Nat} (h1 : p1 ≤ x) (h2 : x ≤ q1) (h3 : p2 ≤ y) (h4 : y ≤ q2) (hq1 : q1 < 4294967296) (hq2 : q2 < 4294967296) : Within (aluS 10 p1 q1 p2 q2) (aluI 10 x y) := by
  have e : aluI 10 x y = ((x / 2 ^ (y % 32) : Nat) : Int) := by
    rw [aluI_10, show ((y : Int) % 32).toNat = y % 32 by omega]; simp
  have hd : x / 2 ^ (y % 32) ≤ x := Nat.div_le_self _ _
  rw [e]
  show Within (if p2 = q2 then (p1 / 2 ^ (p2 % 32), q1 / 2 ^ (p2 % 32)) else (0, q1)) _
  split
  · obtain rfl : y = p2 := by omega
    have a1 : p1 / 2 ^ (y % 32) ≤ x / 2 ^ (y % 32) := Nat.div_le_div_right h1
    have a2 : x / 2 ^ (y % 32) ≤ q1 / 2 ^ (y % 32) := Nat.div_le_div_right h2
    have a3 : q1 / 2 ^ (y % 32) ≤ q1 := Nat.div_le_self _ _
    refine ⟨?_, ?_, ?_, ?_⟩ <;> simp only <;> omega
  · generalize x / 2 ^ (y % 32) = d at *
    refine ⟨?_, ?_, ?_, ?_⟩ <;> simp only <;> omega
theorem aluS_law {p1 q1 p2 q2 x y : Nat} (h1 : p1 ≤ x) (h2 : x ≤ q1) (h3 : p2 ≤ y) (h4 : y ≤ q2) (hq1 : q1 < 4294967296) (hq2 : q2 < 4294967296) (op : Nat) (hop : op < 11) : Within (aluS op p1 q1 p2 q2) (aluI op x y) := by
  match op, hop with
  | 0, _ => exact law_0 h1 h2 h3 h4 hq1 hq2
  | 1, _ => exact law_1 h1 h2 h3 h4 hq1 hq2
  | 2, _ => exact law_2 h1 h2 h3 h4 hq1 hq2
  | 3, _ => exact law_3 h1 h2 h3 h4 hq1 hq2
  | 4, _ => exact law_4 h1 h2 h3 h4 hq1 hq2
  | 5, _ => exact law_5 h1 h2 h3 h4 hq1 hq2
  | 6, _ => exact law_6 h1 h2 h3 h4 hq1 hq2
  | 7, _ => exact law_7 h1 h2 h3 h4 hq1 hq2
  | 8, _ => exact law_8 h1 h2 h3 h4 hq1 hq2
  | 9, _ => exact law_9 h1 h2 h3 h4 hq1 hq2
  | 10, _ => exact law_10 h1 h2 h3 h4 hq1 hq2
  | n + 11, h => exact absurd h (by omega)
/-- A is no less than B -/
def Wider (A B : Nat × Nat) : Prop := A.1 ≤ B.1 ∧ B.2 ≤ A.2 ∧ A.1 ≤ A.2 ∧ A.2 < 4294967296 ∧ B.1 ≤ B.2
theorem powS_mono {a b a' b' : Nat} (h : a ≤ a') (k : b ≤ b') : powS a b ≤ powS a' b' := by
  obtain ⟨n, hn⟩ := powS_pow a' b'
  have hg := powS_gt a' b'
  rw [hn] at hg ⊢
  unfold powS
  split
  · exact Nat.one_le_two_pow
  · next hm =>
    apply Nat.pow_le_pow_right (by decide)
    have : max a b < 2 ^ n := by omega
    have := (Nat.log2_lt hm).2 this
    omega
theorem fit_wider {a b a' b' : Nat} (h : a' ≤ a) (k : b ≤ b') (l : a ≤ b) : Wider (fitS a' b') (fitS a b) := by
  unfold fitS Wider
  split <;> split <;> refine ⟨?_, ?_, ?_, ?_, ?_⟩ <;> simp only <;> omega
section
theorem wide_law {p1 q1 p2 q2 p1' q1' p2' q2' : Nat} (h1 : p1 ≤ q1) (h2 : p2 ≤ q2) (hq1 : q1' < 4294967296) (hq2 : q2' < 4294967296) (k1 : p1' ≤ p1) (k2 : q1 ≤ q1') (k3 : p2' ≤ p2) (k4 : q2 ≤ q2')
    (op : Nat) (hop : op ≤ 8) (h5 : op ≠ 5) : Wider (aluS op p1' q1' p2' q2') (aluS op p1 q1 p2 q2) := by
  match op, hop, h5 with
  | 0, _, _ => refine ⟨?_, ?_, ?_, ?_, ?_⟩ <;> simp only [aluS] <;> omega
  | 1, _, _ => exact fit_wider (by omega) (by omega) (by omega)
  | 2, _, _ =>
    show Wider (if p1' < q2' then (0, 4294967295) else (p1' - q2', q1' - p2')) (if p1 < q2 then (0, 4294967295) else (p1 - q2, q1 - p2))
    unfold Wider
    split <;> split <;> refine ⟨?_, ?_, ?_, ?_, ?_⟩ <;> simp only <;> omega
  | 3, _, _ => exact fit_wider (Nat.mul_le_mul k1 k3) (Nat.mul_le_mul k2 k4) (Nat.mul_le_mul h1 h2)
  | 4, _, _ =>
    show Wider (if p2' = 0 then (0, q1') else (p1' / q2', q1' / p2')) (if p2 = 0 then (0, q1) else (p1 / q2, q1 / p2))
    have d1 : q1 / p2 ≤ q1 := Nat.div_le_self _ _
    have d2 : q1' / p2' ≤ q1' := Nat.div_le_self _ _
    by_cases c : p2' = 0
    · rw [if_pos c]
      split
      · refine ⟨?_, ?_, ?_, ?_, ?_⟩ <;> simp only <;> omega
      · have d3 : p1 / q2 ≤ q1 / p2 := Nat.div_le_div h1 h2 (by omega)
        clear d2
        generalize p1 / q2 = u at *
        generalize q1 / p2 = v at *
        refine ⟨?_, ?_, ?_, ?_, ?_⟩ <;> simp only <;> omega
    · rw [if_neg c, if_neg (by omega)]
      have d3 : p1 / q2 ≤ q1 / p2 := Nat.div_le_div h1 h2 (by omega)
      have d4 : p1' / q2' ≤ p1 / q2 := Nat.div_le_div k1 k4 (by omega)
      have d5 : q1 / p2 ≤ q1' / p2' := Nat.div_le_div k2 k3 (by omega)
      generalize p1 / q2 = u at *
      generalize q1 / p2 = v at *
      generalize p1' / q2' = u' at *
      generalize q1' / p2' = v' at *
      refine ⟨?_, ?_, ?_, ?_, ?_⟩ <;> simp only <;> omega
  | 6, _, _ => refine ⟨?_, ?_, ?_, ?_, ?_⟩ <;> simp only [aluS, nmin] <;> omega
  | 7, _, _ =>
    have a1 := powS_mono k2 k4
    have a2 := powS_le hq1 hq2
    have a3 := powS_gt q1 q2
    refine ⟨?_, ?_, ?_, ?_, ?_⟩ <;> simp only [aluS, nmax] <;> omega
  | 8, _, _ =>
    have a1 := powS_mono k2 k4
    have a2 := powS_le hq1 hq2
    have a3 := powS_gt q1 q2
    refine ⟨?_, ?_, ?_, ?_, ?_⟩ <;> simp only [aluS] <;> omega
  | 5, _, h => exact absurd rfl h
  | n + 9, h, _ => exact absurd h (by omega)
end
theorem exact_mov (x y : Nat) : aluS 0 x x y y = (y, y) := rfl
theorem exact_shr (x y : Nat) : aluS 10 x x y y = (x / 2 ^ (y % 32), x / 2 ^ (y % 32)) := if_pos rfl
theorem exact_div (x y : Nat) (h : y ≠ 0) : aluS 4 x x y y = (x / y, x / y) := if_neg h
theorem v_mov (x y : Nat) : aluI 0 x y = (y : Nat) := by rw [aluI_0]
theorem v_shr (x y : Nat) : aluI 10 x y = ((x / 2 ^ (y % 32) : Nat) : Int) := by
  rw [aluI_10, show ((y : Int) % 32).toNat = y % 32 by omega]; simp
theorem v_div (x y : Nat) (h : y ≠ 0) : aluI 4 x y = ((x / y : Nat) : Int) := by
  rw [aluI_4, if_neg (by omega)]; simp
end Go.Proofs.YtebdnobgdimdoaaGreat
