/- bounds.Cut by its contract. -/
import Derived.Test.YtebdnobgdimdoaaBnd6
set_option linter.unusedVariables false
set_option linter.unusedSimpArgs false
namespace Go.Proofs.Ytebdnobgdimdoaa
open Go.RowKit
attribute [local go_sem] max2_nat min2_nat bmax_two bmin_two
/-- What is left of bounds. -/
def cutS (c : Int) (l1 h1 l2 h2 : Nat) : Nat × Nat × Bool :=
  if c = 1 then (if nmax l1 l2 ≤ nmin h1 h2 then (nmax l1 l2, nmin h1 h2, true) else (0, 4294967295, false))
  else if c = 2 then (if l2 = h2 then (if l1 = l2 then (if h1 = l2 then (0, 4294967295, false) else (l1 + 1, h1, true)) else if h1 = l2 then (l1, h1 - 1, true) else (l1, h1, true)) else (l1, h1, true))
  else if c = 3 then (if 0 < h2 then (if l1 ≤ nmin h1 (h2 - 1) then (l1, nmin h1 (h2 - 1), true) else (0, 4294967295, false)) else (0, 4294967295, false))
  else if c = 4 then (if nmax l1 l2 ≤ h1 then (nmax l1 l2, h1, true) else (0, 4294967295, false))
  else (l1, h1, true)
theorem told_at (l h : Nat) (x y : Int) (w : World) (hx : x = l) (hy : y = h) : Calls Try.prog 90 #[.agg #[.int .u64 x, .int .u64 y]] w fun e w' => e = .returned (.complex .f64 (fl l) (fl h)) ∧ Bel w w' := by
  subst hx; subst hy; exact told_any l h w

set_option maxHeartbeats 1000000 in
theorem cut_eq (l1 h1 l2 h2 : Nat) (w : World) (hl1 : l1 ≤ h1) (hh1 : h1 < 4294967296) (hl2 : l2 ≤ h2) (hh2 : h2 < 4294967296) (hc : nmax l1 l2 ≤ nmin h1 h2) :
    Calls Try.prog 70 #[.int .i64 1, .complex .f64 (fl l1) (fl h1), .complex .f64 (fl l2) (fl h2)] w fun e w' => e = .returned (.tuple #[.complex .f64 (fl (nmax l1 l2)) (fl (nmin h1 h2)), .bool true]) ∧ Bel w w' := by
  have HB := Bel.refl w
  go_enter Try.func70, Try.ntmps70
  go_wp2_with (first | (go_at_call 93; refine (of_any _ _ _ (by with_reducible assumption) (by with_reducible assumption)).mono ?_; rintro e w1 ⟨rfl, rfl⟩) | (go_at_call 96; refine (fit_at 1 0 _ _ _ (by rfl) (by rfl) (by omega) (by omega)).mono ?_; rintro e w2 ⟨rfl, hb2⟩) | (go_at_call 90; refine (told_any _ _ _).mono ?_; rintro e w3 ⟨rfl, hb3⟩))
  go_region
  all_goals go_wp2_with (first | (go_at_call 93; refine (of_any _ _ _ (by with_reducible assumption) (by with_reducible assumption)).mono ?_; rintro e w1 ⟨rfl, rfl⟩) | (go_at_call 96; refine (fit_at 1 0 _ _ _ (by rfl) (by rfl) (by omega) (by omega)).mono ?_; rintro e w2 ⟨rfl, hb2⟩) | (go_at_call 90; refine (told_any _ _ _).mono ?_; rintro e w3 ⟨rfl, hb3⟩))
  all_goals go_ret2
  all_goals exact ⟨by simp, Bel.trans (by repeat (first | (with_reducible exact HB) | (with_reducible refine Bel.setCell ?_ (by first | (simp; done) | (simp; omega)) _) | apply Bel.alloc | apply Bel.drew | apply Bel.drewN)) hb3⟩

set_option maxHeartbeats 1000000 in
theorem cut_eqN (l1 h1 l2 h2 : Nat) (w : World) (hl1 : l1 ≤ h1) (hh1 : h1 < 4294967296) (hl2 : l2 ≤ h2) (hh2 : h2 < 4294967296) (hc : ¬ nmax l1 l2 ≤ nmin h1 h2) :
    Calls Try.prog 70 #[.int .i64 1, .complex .f64 (fl l1) (fl h1), .complex .f64 (fl l2) (fl h2)] w fun e w' => e = .returned (.tuple #[.complex .f64 (fl 0) (fl 4294967295), .bool false]) ∧ Bel w w' := by
  have HB := Bel.refl w
  go_enter Try.func70, Try.ntmps70
  go_wp2_with (first | (go_at_call 93; refine (of_any _ _ _ (by with_reducible assumption) (by with_reducible assumption)).mono ?_; rintro e w1 ⟨rfl, rfl⟩) | (go_at_call 96; refine (fit_at 1 0 _ _ _ (by rfl) (by rfl) (by omega) (by omega)).mono ?_; rintro e w2 ⟨rfl, hb2⟩) | (go_at_call 90; refine (told_any _ _ _).mono ?_; rintro e w3 ⟨rfl, hb3⟩))
  go_region
  all_goals go_wp2_with (first | (go_at_call 93; refine (of_any _ _ _ (by with_reducible assumption) (by with_reducible assumption)).mono ?_; rintro e w1 ⟨rfl, rfl⟩) | (go_at_call 96; refine (fit_at 1 0 _ _ _ (by rfl) (by rfl) (by omega) (by omega)).mono ?_; rintro e w2 ⟨rfl, hb2⟩) | (go_at_call 90; refine (told_any _ _ _).mono ?_; rintro e w3 ⟨rfl, hb3⟩))
  all_goals go_ret2
  all_goals exact ⟨by simp [fitS], Bel.trans (Bel.trans (by repeat (first | (with_reducible exact HB) | (with_reducible refine Bel.setCell ?_ (by first | (simp; done) | (simp; omega)) _) | apply Bel.alloc | apply Bel.drew | apply Bel.drewN)) hb2) hb3⟩

set_option maxHeartbeats 1000000 in
theorem cut_ge (l1 h1 l2 h2 : Nat) (w : World) (hl1 : l1 ≤ h1) (hh1 : h1 < 4294967296) (hl2 : l2 ≤ h2) (hh2 : h2 < 4294967296) (hc : nmax l1 l2 ≤ h1) :
    Calls Try.prog 70 #[.int .i64 4, .complex .f64 (fl l1) (fl h1), .complex .f64 (fl l2) (fl h2)] w fun e w' => e = .returned (.tuple #[.complex .f64 (fl (nmax l1 l2)) (fl h1), .bool true]) ∧ Bel w w' := by
  have HB := Bel.refl w
  go_enter Try.func70, Try.ntmps70
  go_wp2_with (first | (go_at_call 93; refine (of_any _ _ _ (by with_reducible assumption) (by with_reducible assumption)).mono ?_; rintro e w1 ⟨rfl, rfl⟩) | (go_at_call 96; refine (fit_at 1 0 _ _ _ (by rfl) (by rfl) (by omega) (by omega)).mono ?_; rintro e w2 ⟨rfl, hb2⟩) | (go_at_call 90; refine (told_any _ _ _).mono ?_; rintro e w3 ⟨rfl, hb3⟩))
  all_goals go_ret2
  all_goals exact ⟨by simp, Bel.trans (by repeat (first | (with_reducible exact HB) | (with_reducible refine Bel.setCell ?_ (by first | (simp; done) | (simp; omega)) _) | apply Bel.alloc | apply Bel.drew | apply Bel.drewN)) hb3⟩

set_option maxHeartbeats 1000000 in
theorem cut_geN (l1 h1 l2 h2 : Nat) (w : World) (hl1 : l1 ≤ h1) (hh1 : h1 < 4294967296) (hl2 : l2 ≤ h2) (hh2 : h2 < 4294967296) (hc : ¬ nmax l1 l2 ≤ h1) :
    Calls Try.prog 70 #[.int .i64 4, .complex .f64 (fl l1) (fl h1), .complex .f64 (fl l2) (fl h2)] w fun e w' => e = .returned (.tuple #[.complex .f64 (fl 0) (fl 4294967295), .bool false]) ∧ Bel w w' := by
  have HB := Bel.refl w
  have hc' : h1 < nmax l1 l2 := by omega
  go_enter Try.func70, Try.ntmps70
  go_wp2_with (first | (go_at_call 93; refine (of_any _ _ _ (by with_reducible assumption) (by with_reducible assumption)).mono ?_; rintro e w1 ⟨rfl, rfl⟩) | (go_at_call 96; refine (fit_at 1 0 _ _ _ (by rfl) (by rfl) (by omega) (by omega)).mono ?_; rintro e w2 ⟨rfl, hb2⟩) | (go_at_call 90; refine (told_any _ _ _).mono ?_; rintro e w3 ⟨rfl, hb3⟩))
  all_goals go_ret2
  all_goals exact ⟨by simp [fitS], Bel.trans (Bel.trans (by repeat (first | (with_reducible exact HB) | (with_reducible refine Bel.setCell ?_ (by first | (simp; done) | (simp; omega)) _) | apply Bel.alloc | apply Bel.drew | apply Bel.drewN)) hb2) hb3⟩

set_option maxHeartbeats 1000000 in
theorem cut_lt (l1 h1 l2 h2 : Nat) (w : World) (hl1 : l1 ≤ h1) (hh1 : h1 < 4294967296) (hl2 : l2 ≤ h2) (hh2 : h2 < 4294967296) (hd : 0 < h2) (hc : l1 ≤ nmin h1 (h2 - 1)) :
    Calls Try.prog 70 #[.int .i64 3, .complex .f64 (fl l1) (fl h1), .complex .f64 (fl l2) (fl h2)] w fun e w' => e = .returned (.tuple #[.complex .f64 (fl l1) (fl (nmin h1 (h2 - 1))), .bool true]) ∧ Bel w w' := by
  have HB := Bel.refl w
  have f1 : (0 : Int) < (h2 : Int) := by omega
  have f2 : (h2 : Int) - 1 = ((h2 - 1 : Nat) : Int) := by omega
  go_enter Try.func70, Try.ntmps70
  go_wp2_with (first | (go_at_call 93; refine (of_any _ _ _ (by with_reducible assumption) (by with_reducible assumption)).mono ?_; rintro e w1 ⟨rfl, rfl⟩) | (go_at_call 96; refine (fit_at 1 0 _ _ _ (by rfl) (by rfl) (by omega) (by omega)).mono ?_; rintro e w2 ⟨rfl, hb2⟩) | (go_at_call 90; refine (told_any _ _ _).mono ?_; rintro e w3 ⟨rfl, hb3⟩))
  all_goals go_ret2
  all_goals exact ⟨by simp, Bel.trans (by repeat (first | (with_reducible exact HB) | (with_reducible refine Bel.setCell ?_ (by first | (simp; done) | (simp; omega)) _) | apply Bel.alloc | apply Bel.drew | apply Bel.drewN)) hb3⟩

set_option maxHeartbeats 1000000 in
theorem cut_ltN (l1 h1 l2 h2 : Nat) (w : World) (hl1 : l1 ≤ h1) (hh1 : h1 < 4294967296) (hl2 : l2 ≤ h2) (hh2 : h2 < 4294967296) (hd : 0 < h2) (hc : ¬ l1 ≤ nmin h1 (h2 - 1)) :
    Calls Try.prog 70 #[.int .i64 3, .complex .f64 (fl l1) (fl h1), .complex .f64 (fl l2) (fl h2)] w fun e w' => e = .returned (.tuple #[.complex .f64 (fl 0) (fl 4294967295), .bool false]) ∧ Bel w w' := by
  have HB := Bel.refl w
  have f1 : (0 : Int) < (h2 : Int) := by omega
  have f2 : (h2 : Int) - 1 = ((h2 - 1 : Nat) : Int) := by omega
  have hc' : nmin h1 (h2 - 1) < l1 := by omega
  go_enter Try.func70, Try.ntmps70
  go_wp2_with (first | (go_at_call 93; refine (of_any _ _ _ (by with_reducible assumption) (by with_reducible assumption)).mono ?_; rintro e w1 ⟨rfl, rfl⟩) | (go_at_call 96; refine (fit_at 1 0 _ _ _ (by rfl) (by rfl) (by omega) (by omega)).mono ?_; rintro e w2 ⟨rfl, hb2⟩) | (go_at_call 90; refine (told_any _ _ _).mono ?_; rintro e w3 ⟨rfl, hb3⟩))
  all_goals go_ret2
  all_goals exact ⟨by simp [fitS], Bel.trans (Bel.trans (by repeat (first | (with_reducible exact HB) | (with_reducible refine Bel.setCell ?_ (by first | (simp; done) | (simp; omega)) _) | apply Bel.alloc | apply Bel.drew | apply Bel.drewN)) hb2) hb3⟩

set_option maxHeartbeats 1000000 in
theorem cut_ltZ (l1 h1 l2 h2 : Nat) (w : World) (hl1 : l1 ≤ h1) (hh1 : h1 < 4294967296) (hl2 : l2 ≤ h2) (hh2 : h2 < 4294967296) (hd : h2 = 0) :
    Calls Try.prog 70 #[.int .i64 3, .complex .f64 (fl l1) (fl h1), .complex .f64 (fl l2) (fl h2)] w fun e w' => e = .returned (.tuple #[.complex .f64 (fl 0) (fl 4294967295), .bool false]) ∧ Bel w w' := by
  have HB := Bel.refl w
  subst hd
  go_enter Try.func70, Try.ntmps70
  go_wp2_with (first | (go_at_call 93; refine (of_any _ _ _ (by with_reducible assumption) (by first | (with_reducible assumption) | decide)).mono ?_; rintro e w1 ⟨rfl, rfl⟩) | (go_at_call 96; refine (fit_at 1 0 _ _ _ (by rfl) (by rfl) (by omega) (by omega)).mono ?_; rintro e w2 ⟨rfl, hb2⟩) | (go_at_call 90; refine (told_any _ _ _).mono ?_; rintro e w3 ⟨rfl, hb3⟩))
  all_goals go_ret2
  all_goals exact ⟨by simp [fitS], Bel.trans (Bel.trans (by repeat (first | (with_reducible exact HB) | (with_reducible refine Bel.setCell ?_ (by first | (simp; done) | (simp; omega)) _) | apply Bel.alloc | apply Bel.drew | apply Bel.drewN)) hb2) hb3⟩

set_option maxHeartbeats 1000000 in
theorem cut_ne0 (l1 h1 l2 h2 : Nat) (w : World) (hl1 : l1 ≤ h1) (hh1 : h1 < 4294967296) (hl2 : l2 ≤ h2) (hh2 : h2 < 4294967296) (hd : ¬ l2 = h2) :
    Calls Try.prog 70 #[.int .i64 2, .complex .f64 (fl l1) (fl h1), .complex .f64 (fl l2) (fl h2)] w fun e w' => e = .returned (.tuple #[.complex .f64 (fl l1) (fl h1), .bool true]) ∧ Bel w w' := by
  have HB := Bel.refl w
  have f1 : ((l2 : Int) == (h2 : Int)) = false := by simp; omega
  go_enter Try.func70, Try.ntmps70
  go_wp2_with (first | (go_at_call 93; refine (of_any _ _ _ (by with_reducible assumption) (by with_reducible assumption)).mono ?_; rintro e w1 ⟨rfl, rfl⟩) | (go_at_call 96; refine (fit_at 1 0 _ _ _ (by rfl) (by rfl) (by omega) (by omega)).mono ?_; rintro e w2 ⟨rfl, hb2⟩) | (go_at_call 90; refine (told_any _ _ _).mono ?_; rintro e w3 ⟨rfl, hb3⟩))
  all_goals go_ret2
  all_goals exact ⟨by simp, Bel.trans (by repeat (first | (with_reducible exact HB) | (with_reducible refine Bel.setCell ?_ (by first | (simp; done) | (simp; omega)) _) | apply Bel.alloc | apply Bel.drew | apply Bel.drewN)) hb3⟩

set_option maxHeartbeats 1000000 in
theorem cut_ne1 (l1 h1 l2 h2 : Nat) (w : World) (hl1 : l1 ≤ h1) (hh1 : h1 < 4294967296) (hl2 : l2 ≤ h2) (hh2 : h2 < 4294967296) (hd : l2 = h2) (he : l1 = l2) (hf : h1 = l2) :
    Calls Try.prog 70 #[.int .i64 2, .complex .f64 (fl l1) (fl h1), .complex .f64 (fl l2) (fl h2)] w fun e w' => e = .returned (.tuple #[.complex .f64 (fl 0) (fl 4294967295), .bool false]) ∧ Bel w w' := by
  have HB := Bel.refl w
  subst hd
  subst he
  subst hf
  go_enter Try.func70, Try.ntmps70
  go_wp2_with (first | (go_at_call 93; refine (of_any _ _ _ (by with_reducible assumption) (by with_reducible assumption)).mono ?_; rintro e w1 ⟨rfl, rfl⟩) | (go_at_call 96; refine (fit_at 1 0 _ _ _ (by rfl) (by rfl) (by omega) (by omega)).mono ?_; rintro e w2 ⟨rfl, hb2⟩) | (go_at_call 90; refine (told_any _ _ _).mono ?_; rintro e w3 ⟨rfl, hb3⟩))
  all_goals go_ret2
  all_goals exact ⟨by simp [fitS], Bel.trans (Bel.trans (by repeat (first | (with_reducible exact HB) | (with_reducible refine Bel.setCell ?_ (by first | (simp; done) | (simp; omega)) _) | apply Bel.alloc | apply Bel.drew | apply Bel.drewN)) hb2) hb3⟩

set_option maxHeartbeats 1000000 in
theorem cut_ne2 (l1 h1 l2 h2 : Nat) (w : World) (hl1 : l1 ≤ h1) (hh1 : h1 < 4294967296) (hl2 : l2 ≤ h2) (hh2 : h2 < 4294967296) (hd : l2 = h2) (he : l1 = l2) (hf : ¬ h1 = l2) :
    Calls Try.prog 70 #[.int .i64 2, .complex .f64 (fl l1) (fl h1), .complex .f64 (fl l2) (fl h2)] w fun e w' => e = .returned (.tuple #[.complex .f64 (fl (l1 + 1)) (fl h1), .bool true]) ∧ Bel w w' := by
  have HB := Bel.refl w
  subst hd
  subst he
  have f1 : ((h1 : Int) == (l1 : Int)) = false := by simp; omega
  have f3 : ¬ (h1 : Int) < (l1 : Int) + 1 := by omega
  go_enter Try.func70, Try.ntmps70
  go_wp2_with (first | (go_at_call 93; refine (of_any _ _ _ (by with_reducible assumption) (by with_reducible assumption)).mono ?_; rintro e w1 ⟨rfl, rfl⟩) | (go_at_call 96; refine (fit_at 1 0 _ _ _ (by rfl) (by rfl) (by omega) (by omega)).mono ?_; rintro e w2 ⟨rfl, hb2⟩) | (go_at_call 90; refine (told_at (l1 + 1) h1 _ _ _ (by omega) (by rfl)).mono ?_; rintro e w3 ⟨rfl, hb3⟩))
  all_goals go_ret2
  all_goals exact ⟨by simp, Bel.trans (by repeat (first | (with_reducible exact HB) | (with_reducible refine Bel.setCell ?_ (by first | (simp; done) | (simp; omega)) _) | apply Bel.alloc | apply Bel.drew | apply Bel.drewN)) hb3⟩

set_option maxHeartbeats 1000000 in
theorem cut_ne3 (l1 h1 l2 h2 : Nat) (w : World) (hl1 : l1 ≤ h1) (hh1 : h1 < 4294967296) (hl2 : l2 ≤ h2) (hh2 : h2 < 4294967296) (hd : l2 = h2) (he : ¬ l1 = l2) (hf : h1 = l2) :
    Calls Try.prog 70 #[.int .i64 2, .complex .f64 (fl l1) (fl h1), .complex .f64 (fl l2) (fl h2)] w fun e w' => e = .returned (.tuple #[.complex .f64 (fl l1) (fl (h1 - 1)), .bool true]) ∧ Bel w w' := by
  have HB := Bel.refl w
  subst hd
  subst hf
  have f1 : ((l1 : Int) == (h1 : Int)) = false := by simp; omega
  have f2 : (h1 : Int) - 1 = ((h1 - 1 : Nat) : Int) := by omega
  have f3 : ¬ ((h1 - 1 : Nat) : Int) < (l1 : Int) := by omega
  go_enter Try.func70, Try.ntmps70
  go_wp2_with (first | (go_at_call 93; refine (of_any _ _ _ (by with_reducible assumption) (by with_reducible assumption)).mono ?_; rintro e w1 ⟨rfl, rfl⟩) | (go_at_call 96; refine (fit_at 1 0 _ _ _ (by rfl) (by rfl) (by omega) (by omega)).mono ?_; rintro e w2 ⟨rfl, hb2⟩) | (go_at_call 90; refine (told_any _ _ _).mono ?_; rintro e w3 ⟨rfl, hb3⟩))
  all_goals go_ret2
  all_goals exact ⟨by simp, Bel.trans (by repeat (first | (with_reducible exact HB) | (with_reducible refine Bel.setCell ?_ (by first | (simp; done) | (simp; omega)) _) | apply Bel.alloc | apply Bel.drew | apply Bel.drewN)) hb3⟩

set_option maxHeartbeats 1000000 in
theorem cut_ne4 (l1 h1 l2 h2 : Nat) (w : World) (hl1 : l1 ≤ h1) (hh1 : h1 < 4294967296) (hl2 : l2 ≤ h2) (hh2 : h2 < 4294967296) (hd : l2 = h2) (he : ¬ l1 = l2) (hf : ¬ h1 = l2) :
    Calls Try.prog 70 #[.int .i64 2, .complex .f64 (fl l1) (fl h1), .complex .f64 (fl l2) (fl h2)] w fun e w' => e = .returned (.tuple #[.complex .f64 (fl l1) (fl h1), .bool true]) ∧ Bel w w' := by
  have HB := Bel.refl w
  subst hd
  have f1 : ((l1 : Int) == (l2 : Int)) = false := by simp; omega
  have f2 : ((h1 : Int) == (l2 : Int)) = false := by simp; omega
  go_enter Try.func70, Try.ntmps70
  go_wp2_with (first | (go_at_call 93; refine (of_any _ _ _ (by with_reducible assumption) (by with_reducible assumption)).mono ?_; rintro e w1 ⟨rfl, rfl⟩) | (go_at_call 96; refine (fit_at 1 0 _ _ _ (by rfl) (by rfl) (by omega) (by omega)).mono ?_; rintro e w2 ⟨rfl, hb2⟩) | (go_at_call 90; refine (told_any _ _ _).mono ?_; rintro e w3 ⟨rfl, hb3⟩))
  all_goals go_ret2
  all_goals exact ⟨by simp, Bel.trans (by repeat (first | (with_reducible exact HB) | (with_reducible refine Bel.setCell ?_ (by first | (simp; done) | (simp; omega)) _) | apply Bel.alloc | apply Bel.drew | apply Bel.drewN)) hb3⟩

set_option maxHeartbeats 1000000 in
theorem cut_oth (l1 h1 l2 h2 : Nat) (w : World) (hl1 : l1 ≤ h1) (hh1 : h1 < 4294967296) (hl2 : l2 ≤ h2) (hh2 : h2 < 4294967296) (c : Int) (k1 : ¬ c = 1) (k2 : ¬ c = 2) (k3 : ¬ c = 3) (k4 : ¬ c = 4) :
    Calls Try.prog 70 #[.int .i64 c, .complex .f64 (fl l1) (fl h1), .complex .f64 (fl l2) (fl h2)] w fun e w' => e = .returned (.tuple #[.complex .f64 (fl l1) (fl h1), .bool true]) ∧ Bel w w' := by
  have HB := Bel.refl w
  have g1 : (c == 1) = false := by simp [k1]
  have g2 : (c == 2) = false := by simp [k2]
  have g3 : (c == 3) = false := by simp [k3]
  have g4 : (c == 4) = false := by simp [k4]
  go_enter Try.func70, Try.ntmps70
  go_wp2_with (first | (go_at_call 93; refine (of_any _ _ _ (by with_reducible assumption) (by with_reducible assumption)).mono ?_; rintro e w1 ⟨rfl, rfl⟩) | (go_at_call 96; refine (fit_at 1 0 _ _ _ (by rfl) (by rfl) (by omega) (by omega)).mono ?_; rintro e w2 ⟨rfl, hb2⟩) | (go_at_call 90; refine (told_any _ _ _).mono ?_; rintro e w3 ⟨rfl, hb3⟩))
  all_goals go_ret2
  all_goals exact ⟨by simp, Bel.trans (by repeat (first | (with_reducible exact HB) | (with_reducible refine Bel.setCell ?_ (by first | (simp; done) | (simp; omega)) _) | apply Bel.alloc | apply Bel.drew | apply Bel.drewN)) hb3⟩
end Go.Proofs.Ytebdnobgdimdoaa
