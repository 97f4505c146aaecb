/- The law BoundsOne: its walk. -/
import Derived.Test.YtpmkefngngjhkaaBndHold
set_option linter.unusedVariables false
set_option linter.unusedSimpArgs false
namespace Go.Proofs.Ytpmkefngngjhkaa
open Go.RowKit
theorem cut_ne_one (x y : Nat) : cutS 2 x x y y = if x = y then (0, 4294967295, false) else (x, x, true) := by
  by_cases h : x = y <;> simp [cutS, h]
theorem cut_eq_one (x y : Nat) : cutS 1 x x y y = if x = y then (x, x, true) else (0, 4294967295, false) := by
  by_cases h : x = y
  · simp [cutS, nmin, nmax, h]
  · have : ¬ max x y ≤ min x y := by omega
    simp [cutS, nmin, nmax, h, this]
set_option maxHeartbeats 4000000 in
set_option maxRecDepth 100000 in
theorem one_mov ( x y v P Q : Nat) (w : World) (kx : x < 4294967296) (ky : y < 4294967296) (ev : Hid (aluI 0 x y = v)) (eo : Hid (aluOk 0 = true)) (eA : Hid (aluS 0 x x y y = (P, Q))) (z1 : P ≤ Q) (z2 : Q < 4294967296) (kv : v < 4294967296) (g3 : decide (P ≤ v ∧ v ≤ Q) = true)(hP : v = P) (hQ : v = Q) : Calls Try.prog 7 #[.int .i64 0, .int .u32 x, .int .u32 y] w fun e w' => e = .returned (.bool true) ∧ Bel w w' := by
  have HB := Bel.refl w
  subst hP
  subst hQ
  have o1 := ord_eq x kx
  by_cases hxy : x = y
  · subst hxy
    have en : cutS 2 x x x x = (0, 4294967295, false) := by rw [cut_ne_one, if_pos rfl]
    have ee : cutS 1 x x x x = (x, x, true) := by rw [cut_eq_one, if_pos rfl]
    replace en := Lib.hid en
    replace ee := Lib.hid ee
    go_enter Try.func7, Try.ntmps7
    go_wp2_with (first | (go_at_call 8; refine (bawake_any _).mono ?_; rintro e w1 ⟨rfl, hb1⟩; have HB := HB.trans hb1; clear hb1))
    refine (Of_at x x x x _ _ _ rfl rfl (Nat.min_self x) (Nat.max_self x) kx kx).mono ?_
    rintro e w1 ⟨rfl, hb1⟩; have HB := HB.trans hb1; clear hb1
    go_wp2_with fail
    refine (Of_at x x x x _ _ _ rfl rfl (Nat.min_self x) (Nat.max_self x) ky ky).mono ?_
    rintro e w1 ⟨rfl, hb1⟩; have HB := HB.trans hb1; clear hb1
    go_wp2_with fail
    refine (do_at _ x x v _ _ ev.out eo.out (u32_nat kx) (u32_nat ky)).mono ?_
    rintro e w1 ⟨rfl, hb1⟩; have HB := HB.trans hb1; clear hb1
    go_wp2_with fail
    refine (balu_at 0 x x x x _ _ _ _ rfl eA.out (by first | assumption | decide) (Nat.le_refl _) kx (Nat.le_refl _) ky).mono ?_
    rintro e w1 ⟨rfl, hb1⟩; have HB := HB.trans hb1; clear hb1
    go_wp2_with fail
    refine (cut_at 2 x x x x _ _ _ _ en.out (Nat.le_refl _) kx (Nat.le_refl _) ky).mono ?_
    rintro e w1 ⟨rfl, hb1⟩; have HB := HB.trans hb1; clear hb1
    go_wp2_with fail
    refine (cut_at 1 x x x x _ _ _ _ ee.out (Nat.le_refl _) kx (Nat.le_refl _) ky).mono ?_
    rintro e w1 ⟨rfl, hb1⟩; have HB := HB.trans hb1; clear hb1
    go_wp2_with (first | (go_at_call 11; refine (ends_any _ _ _ (by with_reducible assumption) (by with_reducible assumption)).mono ?_; rintro e w1 ⟨rfl, hb1⟩; have HB := HB.trans hb1; clear hb1) | (go_at_call 12; refine (has_any _ _ _ _ (by with_reducible assumption) (by with_reducible assumption) (by with_reducible assumption)).mono ?_; rintro e w1 ⟨rfl, hb1⟩; have HB := HB.trans hb1; clear hb1))
    all_goals go_ret
    all_goals exact ⟨by first | (simp; done) | (simp; omega), HB⟩
  · have en : cutS 2 x x y y = (x, x, true) := by rw [cut_ne_one, if_neg hxy]
    have ee : cutS 1 x x y y = (0, 4294967295, false) := by rw [cut_eq_one, if_neg hxy]
    have b1 : ((x : Int) == (y : Int)) = false := by simp; omega
    have b2 : ((x : Int) != (y : Int)) = true := by simp; omega
    have b3 : ¬ (x : Int) = (y : Int) := by omega
    clear hxy
    replace en := Lib.hid en
    replace ee := Lib.hid ee
    go_enter Try.func7, Try.ntmps7
    go_wp2_with (first | (go_at_call 8; refine (bawake_any _).mono ?_; rintro e w1 ⟨rfl, hb1⟩; have HB := HB.trans hb1; clear hb1))
    refine (Of_at x x x x _ _ _ rfl rfl (Nat.min_self x) (Nat.max_self x) kx kx).mono ?_
    rintro e w1 ⟨rfl, hb1⟩; have HB := HB.trans hb1; clear hb1
    go_wp2_with fail
    refine (Of_at y y y y _ _ _ rfl rfl (Nat.min_self y) (Nat.max_self y) ky ky).mono ?_
    rintro e w1 ⟨rfl, hb1⟩; have HB := HB.trans hb1; clear hb1
    go_wp2_with fail
    refine (do_at _ x y v _ _ ev.out eo.out (u32_nat kx) (u32_nat ky)).mono ?_
    rintro e w1 ⟨rfl, hb1⟩; have HB := HB.trans hb1; clear hb1
    go_wp2_with fail
    refine (balu_at 0 x x y y _ _ _ _ rfl eA.out (by first | assumption | decide) (Nat.le_refl _) kx (Nat.le_refl _) ky).mono ?_
    rintro e w1 ⟨rfl, hb1⟩; have HB := HB.trans hb1; clear hb1
    go_wp2_with fail
    refine (cut_at 2 x x y y _ _ _ _ en.out (Nat.le_refl _) kx (Nat.le_refl _) ky).mono ?_
    rintro e w1 ⟨rfl, hb1⟩; have HB := HB.trans hb1; clear hb1
    go_wp2_with fail
    refine (cut_at 1 x x y y _ _ _ _ ee.out (Nat.le_refl _) kx (Nat.le_refl _) ky).mono ?_
    rintro e w1 ⟨rfl, hb1⟩; have HB := HB.trans hb1; clear hb1
    go_wp2_with (first | (go_at_call 11; refine (ends_any _ _ _ (by with_reducible assumption) (by with_reducible assumption)).mono ?_; rintro e w1 ⟨rfl, hb1⟩; have HB := HB.trans hb1; clear hb1) | (go_at_call 12; refine (has_any _ _ _ _ (by with_reducible assumption) (by with_reducible assumption) (by with_reducible assumption)).mono ?_; rintro e w1 ⟨rfl, hb1⟩; have HB := HB.trans hb1; clear hb1))
    all_goals go_ret
    all_goals exact ⟨by first | (simp; done) | (simp; omega), HB⟩
set_option maxHeartbeats 4000000 in
set_option maxRecDepth 100000 in
theorem one_shr ( x y v P Q : Nat) (w : World) (kx : x < 4294967296) (ky : y < 4294967296) (ev : Hid (aluI 10 x y = v)) (eo : Hid (aluOk 10 = true)) (eA : Hid (aluS 10 x x y y = (P, Q))) (z1 : P ≤ Q) (z2 : Q < 4294967296) (kv : v < 4294967296) (g3 : decide (P ≤ v ∧ v ≤ Q) = true)(hP : v = P) (hQ : v = Q) : Calls Try.prog 7 #[.int .i64 10, .int .u32 x, .int .u32 y] w fun e w' => e = .returned (.bool true) ∧ Bel w w' := by
  have HB := Bel.refl w
  subst hP
  subst hQ
  have o1 := ord_eq x kx
  by_cases hxy : x = y
  · subst hxy
    have en : cutS 2 x x x x = (0, 4294967295, false) := by rw [cut_ne_one, if_pos rfl]
    have ee : cutS 1 x x x x = (x, x, true) := by rw [cut_eq_one, if_pos rfl]
    replace en := Lib.hid en
    replace ee := Lib.hid ee
    go_enter Try.func7, Try.ntmps7
    go_wp2_with (first | (go_at_call 8; refine (bawake_any _).mono ?_; rintro e w1 ⟨rfl, hb1⟩; have HB := HB.trans hb1; clear hb1))
    refine (Of_at x x x x _ _ _ rfl rfl (Nat.min_self x) (Nat.max_self x) kx kx).mono ?_
    rintro e w1 ⟨rfl, hb1⟩; have HB := HB.trans hb1; clear hb1
    go_wp2_with fail
    refine (Of_at x x x x _ _ _ rfl rfl (Nat.min_self x) (Nat.max_self x) ky ky).mono ?_
    rintro e w1 ⟨rfl, hb1⟩; have HB := HB.trans hb1; clear hb1
    go_wp2_with fail
    refine (do_at _ x x v _ _ ev.out eo.out (u32_nat kx) (u32_nat ky)).mono ?_
    rintro e w1 ⟨rfl, hb1⟩; have HB := HB.trans hb1; clear hb1
    go_wp2_with fail
    refine (balu_at 10 x x x x _ _ _ _ rfl eA.out (by first | assumption | decide) (Nat.le_refl _) kx (Nat.le_refl _) ky).mono ?_
    rintro e w1 ⟨rfl, hb1⟩; have HB := HB.trans hb1; clear hb1
    go_wp2_with fail
    refine (cut_at 2 x x x x _ _ _ _ en.out (Nat.le_refl _) kx (Nat.le_refl _) ky).mono ?_
    rintro e w1 ⟨rfl, hb1⟩; have HB := HB.trans hb1; clear hb1
    go_wp2_with fail
    refine (cut_at 1 x x x x _ _ _ _ ee.out (Nat.le_refl _) kx (Nat.le_refl _) ky).mono ?_
    rintro e w1 ⟨rfl, hb1⟩; have HB := HB.trans hb1; clear hb1
    go_wp2_with (first | (go_at_call 11; refine (ends_any _ _ _ (by with_reducible assumption) (by with_reducible assumption)).mono ?_; rintro e w1 ⟨rfl, hb1⟩; have HB := HB.trans hb1; clear hb1) | (go_at_call 12; refine (has_any _ _ _ _ (by with_reducible assumption) (by with_reducible assumption) (by with_reducible assumption)).mono ?_; rintro e w1 ⟨rfl, hb1⟩; have HB := HB.trans hb1; clear hb1))
    all_goals go_ret
    all_goals exact ⟨by first | (simp; done) | (simp; omega), HB⟩
  · have en : cutS 2 x x y y = (x, x, true) := by rw [cut_ne_one, if_neg hxy]
    have ee : cutS 1 x x y y = (0, 4294967295, false) := by rw [cut_eq_one, if_neg hxy]
    have b1 : ((x : Int) == (y : Int)) = false := by simp; omega
    have b2 : ((x : Int) != (y : Int)) = true := by simp; omega
    have b3 : ¬ (x : Int) = (y : Int) := by omega
    clear hxy
    replace en := Lib.hid en
    replace ee := Lib.hid ee
    go_enter Try.func7, Try.ntmps7
    go_wp2_with (first | (go_at_call 8; refine (bawake_any _).mono ?_; rintro e w1 ⟨rfl, hb1⟩; have HB := HB.trans hb1; clear hb1))
    refine (Of_at x x x x _ _ _ rfl rfl (Nat.min_self x) (Nat.max_self x) kx kx).mono ?_
    rintro e w1 ⟨rfl, hb1⟩; have HB := HB.trans hb1; clear hb1
    go_wp2_with fail
    refine (Of_at y y y y _ _ _ rfl rfl (Nat.min_self y) (Nat.max_self y) ky ky).mono ?_
    rintro e w1 ⟨rfl, hb1⟩; have HB := HB.trans hb1; clear hb1
    go_wp2_with fail
    refine (do_at _ x y v _ _ ev.out eo.out (u32_nat kx) (u32_nat ky)).mono ?_
    rintro e w1 ⟨rfl, hb1⟩; have HB := HB.trans hb1; clear hb1
    go_wp2_with fail
    refine (balu_at 10 x x y y _ _ _ _ rfl eA.out (by first | assumption | decide) (Nat.le_refl _) kx (Nat.le_refl _) ky).mono ?_
    rintro e w1 ⟨rfl, hb1⟩; have HB := HB.trans hb1; clear hb1
    go_wp2_with fail
    refine (cut_at 2 x x y y _ _ _ _ en.out (Nat.le_refl _) kx (Nat.le_refl _) ky).mono ?_
    rintro e w1 ⟨rfl, hb1⟩; have HB := HB.trans hb1; clear hb1
    go_wp2_with fail
    refine (cut_at 1 x x y y _ _ _ _ ee.out (Nat.le_refl _) kx (Nat.le_refl _) ky).mono ?_
    rintro e w1 ⟨rfl, hb1⟩; have HB := HB.trans hb1; clear hb1
    go_wp2_with (first | (go_at_call 11; refine (ends_any _ _ _ (by with_reducible assumption) (by with_reducible assumption)).mono ?_; rintro e w1 ⟨rfl, hb1⟩; have HB := HB.trans hb1; clear hb1) | (go_at_call 12; refine (has_any _ _ _ _ (by with_reducible assumption) (by with_reducible assumption) (by with_reducible assumption)).mono ?_; rintro e w1 ⟨rfl, hb1⟩; have HB := HB.trans hb1; clear hb1))
    all_goals go_ret
    all_goals exact ⟨by first | (simp; done) | (simp; omega), HB⟩
set_option maxHeartbeats 4000000 in
set_option maxRecDepth 100000 in
theorem one_div ( x y v P Q : Nat) (w : World) (kx : x < 4294967296) (ky : y < 4294967296) (ev : Hid (aluI 4 x y = v)) (eo : Hid (aluOk 4 = true)) (eA : Hid (aluS 4 x x y y = (P, Q))) (z1 : P ≤ Q) (z2 : Q < 4294967296) (kv : v < 4294967296) (g3 : decide (P ≤ v ∧ v ≤ Q) = true)(hP : v = P) (hQ : v = Q) (hy : 0 < y) : Calls Try.prog 7 #[.int .i64 4, .int .u32 x, .int .u32 y] w fun e w' => e = .returned (.bool true) ∧ Bel w w' := by
  have HB := Bel.refl w
  subst hP
  subst hQ
  have b0 : (0 : Int) < (y : Int) := by omega
  have o1 := ord_eq x kx
  by_cases hxy : x = y
  · subst hxy
    have en : cutS 2 x x x x = (0, 4294967295, false) := by rw [cut_ne_one, if_pos rfl]
    have ee : cutS 1 x x x x = (x, x, true) := by rw [cut_eq_one, if_pos rfl]
    replace en := Lib.hid en
    replace ee := Lib.hid ee
    go_enter Try.func7, Try.ntmps7
    go_wp2_with (first | (go_at_call 8; refine (bawake_any _).mono ?_; rintro e w1 ⟨rfl, hb1⟩; have HB := HB.trans hb1; clear hb1))
    refine (Of_at x x x x _ _ _ rfl rfl (Nat.min_self x) (Nat.max_self x) kx kx).mono ?_
    rintro e w1 ⟨rfl, hb1⟩; have HB := HB.trans hb1; clear hb1
    go_wp2_with fail
    refine (Of_at x x x x _ _ _ rfl rfl (Nat.min_self x) (Nat.max_self x) ky ky).mono ?_
    rintro e w1 ⟨rfl, hb1⟩; have HB := HB.trans hb1; clear hb1
    go_wp2_with fail
    refine (do_at _ x x v _ _ ev.out eo.out (u32_nat kx) (u32_nat ky)).mono ?_
    rintro e w1 ⟨rfl, hb1⟩; have HB := HB.trans hb1; clear hb1
    go_wp2_with fail
    refine (balu_at 4 x x x x _ _ _ _ rfl eA.out (by first | assumption | decide) (Nat.le_refl _) kx (Nat.le_refl _) ky).mono ?_
    rintro e w1 ⟨rfl, hb1⟩; have HB := HB.trans hb1; clear hb1
    go_wp2_with fail
    refine (cut_at 2 x x x x _ _ _ _ en.out (Nat.le_refl _) kx (Nat.le_refl _) ky).mono ?_
    rintro e w1 ⟨rfl, hb1⟩; have HB := HB.trans hb1; clear hb1
    go_wp2_with fail
    refine (cut_at 1 x x x x _ _ _ _ ee.out (Nat.le_refl _) kx (Nat.le_refl _) ky).mono ?_
    rintro e w1 ⟨rfl, hb1⟩; have HB := HB.trans hb1; clear hb1
    go_wp2_with (first | (go_at_call 11; refine (ends_any _ _ _ (by with_reducible assumption) (by with_reducible assumption)).mono ?_; rintro e w1 ⟨rfl, hb1⟩; have HB := HB.trans hb1; clear hb1) | (go_at_call 12; refine (has_any _ _ _ _ (by with_reducible assumption) (by with_reducible assumption) (by with_reducible assumption)).mono ?_; rintro e w1 ⟨rfl, hb1⟩; have HB := HB.trans hb1; clear hb1))
    all_goals go_ret
    all_goals exact ⟨by first | (simp; done) | (simp; omega), HB⟩
  · have en : cutS 2 x x y y = (x, x, true) := by rw [cut_ne_one, if_neg hxy]
    have ee : cutS 1 x x y y = (0, 4294967295, false) := by rw [cut_eq_one, if_neg hxy]
    have b1 : ((x : Int) == (y : Int)) = false := by simp; omega
    have b2 : ((x : Int) != (y : Int)) = true := by simp; omega
    have b3 : ¬ (x : Int) = (y : Int) := by omega
    clear hxy
    replace en := Lib.hid en
    replace ee := Lib.hid ee
    go_enter Try.func7, Try.ntmps7
    go_wp2_with (first | (go_at_call 8; refine (bawake_any _).mono ?_; rintro e w1 ⟨rfl, hb1⟩; have HB := HB.trans hb1; clear hb1))
    refine (Of_at x x x x _ _ _ rfl rfl (Nat.min_self x) (Nat.max_self x) kx kx).mono ?_
    rintro e w1 ⟨rfl, hb1⟩; have HB := HB.trans hb1; clear hb1
    go_wp2_with fail
    refine (Of_at y y y y _ _ _ rfl rfl (Nat.min_self y) (Nat.max_self y) ky ky).mono ?_
    rintro e w1 ⟨rfl, hb1⟩; have HB := HB.trans hb1; clear hb1
    go_wp2_with fail
    refine (do_at _ x y v _ _ ev.out eo.out (u32_nat kx) (u32_nat ky)).mono ?_
    rintro e w1 ⟨rfl, hb1⟩; have HB := HB.trans hb1; clear hb1
    go_wp2_with fail
    refine (balu_at 4 x x y y _ _ _ _ rfl eA.out (by first | assumption | decide) (Nat.le_refl _) kx (Nat.le_refl _) ky).mono ?_
    rintro e w1 ⟨rfl, hb1⟩; have HB := HB.trans hb1; clear hb1
    go_wp2_with fail
    refine (cut_at 2 x x y y _ _ _ _ en.out (Nat.le_refl _) kx (Nat.le_refl _) ky).mono ?_
    rintro e w1 ⟨rfl, hb1⟩; have HB := HB.trans hb1; clear hb1
    go_wp2_with fail
    refine (cut_at 1 x x y y _ _ _ _ ee.out (Nat.le_refl _) kx (Nat.le_refl _) ky).mono ?_
    rintro e w1 ⟨rfl, hb1⟩; have HB := HB.trans hb1; clear hb1
    go_wp2_with (first | (go_at_call 11; refine (ends_any _ _ _ (by with_reducible assumption) (by with_reducible assumption)).mono ?_; rintro e w1 ⟨rfl, hb1⟩; have HB := HB.trans hb1; clear hb1) | (go_at_call 12; refine (has_any _ _ _ _ (by with_reducible assumption) (by with_reducible assumption) (by with_reducible assumption)).mono ?_; rintro e w1 ⟨rfl, hb1⟩; have HB := HB.trans hb1; clear hb1))
    all_goals go_ret
    all_goals exact ⟨by first | (simp; done) | (simp; omega), HB⟩
set_option maxHeartbeats 4000000 in
set_option maxRecDepth 100000 in
theorem one_divZ ( x y v P Q : Nat) (w : World) (kx : x < 4294967296) (ky : y < 4294967296) (ev : Hid (aluI 4 x y = v)) (eo : Hid (aluOk 4 = true)) (eA : Hid (aluS 4 x x y y = (P, Q))) (z1 : P ≤ Q) (z2 : Q < 4294967296) (kv : v < 4294967296) (g3 : decide (P ≤ v ∧ v ≤ Q) = true) (b0 : ¬ (0 : Int) < (y : Int)) : Calls Try.prog 7 #[.int .i64 4, .int .u32 x, .int .u32 y] w fun e w' => e = .returned (.bool true) ∧ Bel w w' := by
  have HB := Bel.refl w
  have o1 := ord_eq x kx
  by_cases hxy : x = y
  · subst hxy
    have en : cutS 2 x x x x = (0, 4294967295, false) := by rw [cut_ne_one, if_pos rfl]
    have ee : cutS 1 x x x x = (x, x, true) := by rw [cut_eq_one, if_pos rfl]
    replace en := Lib.hid en
    replace ee := Lib.hid ee
    go_enter Try.func7, Try.ntmps7
    go_wp2_with (first | (go_at_call 8; refine (bawake_any _).mono ?_; rintro e w1 ⟨rfl, hb1⟩; have HB := HB.trans hb1; clear hb1))
    refine (Of_at x x x x _ _ _ rfl rfl (Nat.min_self x) (Nat.max_self x) kx kx).mono ?_
    rintro e w1 ⟨rfl, hb1⟩; have HB := HB.trans hb1; clear hb1
    go_wp2_with fail
    refine (Of_at x x x x _ _ _ rfl rfl (Nat.min_self x) (Nat.max_self x) ky ky).mono ?_
    rintro e w1 ⟨rfl, hb1⟩; have HB := HB.trans hb1; clear hb1
    go_wp2_with fail
    refine (do_at _ x x v _ _ ev.out eo.out (u32_nat kx) (u32_nat ky)).mono ?_
    rintro e w1 ⟨rfl, hb1⟩; have HB := HB.trans hb1; clear hb1
    go_wp2_with fail
    refine (balu_at 4 x x x x _ _ _ _ rfl eA.out (by first | assumption | decide) (Nat.le_refl _) kx (Nat.le_refl _) ky).mono ?_
    rintro e w1 ⟨rfl, hb1⟩; have HB := HB.trans hb1; clear hb1
    go_wp2_with fail
    refine (cut_at 2 x x x x _ _ _ _ en.out (Nat.le_refl _) kx (Nat.le_refl _) ky).mono ?_
    rintro e w1 ⟨rfl, hb1⟩; have HB := HB.trans hb1; clear hb1
    go_wp2_with fail
    refine (cut_at 1 x x x x _ _ _ _ ee.out (Nat.le_refl _) kx (Nat.le_refl _) ky).mono ?_
    rintro e w1 ⟨rfl, hb1⟩; have HB := HB.trans hb1; clear hb1
    go_wp2_with (first | (go_at_call 11; refine (ends_any _ _ _ (by with_reducible assumption) (by with_reducible assumption)).mono ?_; rintro e w1 ⟨rfl, hb1⟩; have HB := HB.trans hb1; clear hb1) | (go_at_call 12; refine (has_any _ _ _ _ (by with_reducible assumption) (by with_reducible assumption) (by with_reducible assumption)).mono ?_; rintro e w1 ⟨rfl, hb1⟩; have HB := HB.trans hb1; clear hb1))
    all_goals go_ret
    all_goals exact ⟨by first | (simp; done) | (simp; omega), HB⟩
  · have en : cutS 2 x x y y = (x, x, true) := by rw [cut_ne_one, if_neg hxy]
    have ee : cutS 1 x x y y = (0, 4294967295, false) := by rw [cut_eq_one, if_neg hxy]
    have b1 : ((x : Int) == (y : Int)) = false := by simp; omega
    have b2 : ((x : Int) != (y : Int)) = true := by simp; omega
    have b3 : ¬ (x : Int) = (y : Int) := by omega
    clear hxy
    replace en := Lib.hid en
    replace ee := Lib.hid ee
    go_enter Try.func7, Try.ntmps7
    go_wp2_with (first | (go_at_call 8; refine (bawake_any _).mono ?_; rintro e w1 ⟨rfl, hb1⟩; have HB := HB.trans hb1; clear hb1))
    refine (Of_at x x x x _ _ _ rfl rfl (Nat.min_self x) (Nat.max_self x) kx kx).mono ?_
    rintro e w1 ⟨rfl, hb1⟩; have HB := HB.trans hb1; clear hb1
    go_wp2_with fail
    refine (Of_at y y y y _ _ _ rfl rfl (Nat.min_self y) (Nat.max_self y) ky ky).mono ?_
    rintro e w1 ⟨rfl, hb1⟩; have HB := HB.trans hb1; clear hb1
    go_wp2_with fail
    refine (do_at _ x y v _ _ ev.out eo.out (u32_nat kx) (u32_nat ky)).mono ?_
    rintro e w1 ⟨rfl, hb1⟩; have HB := HB.trans hb1; clear hb1
    go_wp2_with fail
    refine (balu_at 4 x x y y _ _ _ _ rfl eA.out (by first | assumption | decide) (Nat.le_refl _) kx (Nat.le_refl _) ky).mono ?_
    rintro e w1 ⟨rfl, hb1⟩; have HB := HB.trans hb1; clear hb1
    go_wp2_with fail
    refine (cut_at 2 x x y y _ _ _ _ en.out (Nat.le_refl _) kx (Nat.le_refl _) ky).mono ?_
    rintro e w1 ⟨rfl, hb1⟩; have HB := HB.trans hb1; clear hb1
    go_wp2_with fail
    refine (cut_at 1 x x y y _ _ _ _ ee.out (Nat.le_refl _) kx (Nat.le_refl _) ky).mono ?_
    rintro e w1 ⟨rfl, hb1⟩; have HB := HB.trans hb1; clear hb1
    go_wp2_with (first | (go_at_call 11; refine (ends_any _ _ _ (by with_reducible assumption) (by with_reducible assumption)).mono ?_; rintro e w1 ⟨rfl, hb1⟩; have HB := HB.trans hb1; clear hb1) | (go_at_call 12; refine (has_any _ _ _ _ (by with_reducible assumption) (by with_reducible assumption) (by with_reducible assumption)).mono ?_; rintro e w1 ⟨rfl, hb1⟩; have HB := HB.trans hb1; clear hb1))
    all_goals go_ret
    all_goals exact ⟨by first | (simp; done) | (simp; omega), HB⟩
set_option maxHeartbeats 4000000 in
set_option maxRecDepth 100000 in
theorem one_oth (op x y v P Q : Nat) (w : World) (kx : x < 4294967296) (ky : y < 4294967296) (ev : Hid (aluI op x y = v)) (eo : Hid (aluOk op = true)) (eA : Hid (aluS op x x y y = (P, Q))) (z1 : P ≤ Q) (z2 : Q < 4294967296) (kv : v < 4294967296) (g3 : decide (P ≤ v ∧ v ≤ Q) = true)(hop : op < 11) (n0 : ((op : Int) == 0) = false) (n10 : ((op : Int) == 10) = false) (n4 : ((op : Int) == 4) = false) : Calls Try.prog 7 #[.int .i64 op, .int .u32 x, .int .u32 y] w fun e w' => e = .returned (.bool true) ∧ Bel w w' := by
  have HB := Bel.refl w
  have o1 := ord_eq x kx
  by_cases hxy : x = y
  · subst hxy
    have en : cutS 2 x x x x = (0, 4294967295, false) := by rw [cut_ne_one, if_pos rfl]
    have ee : cutS 1 x x x x = (x, x, true) := by rw [cut_eq_one, if_pos rfl]
    replace en := Lib.hid en
    replace ee := Lib.hid ee
    go_enter Try.func7, Try.ntmps7
    go_wp2_with (first | (go_at_call 8; refine (bawake_any _).mono ?_; rintro e w1 ⟨rfl, hb1⟩; have HB := HB.trans hb1; clear hb1))
    refine (Of_at x x x x _ _ _ rfl rfl (Nat.min_self x) (Nat.max_self x) kx kx).mono ?_
    rintro e w1 ⟨rfl, hb1⟩; have HB := HB.trans hb1; clear hb1
    go_wp2_with fail
    refine (Of_at x x x x _ _ _ rfl rfl (Nat.min_self x) (Nat.max_self x) ky ky).mono ?_
    rintro e w1 ⟨rfl, hb1⟩; have HB := HB.trans hb1; clear hb1
    go_wp2_with fail
    refine (do_at _ x x v _ _ ev.out eo.out (u32_nat kx) (u32_nat ky)).mono ?_
    rintro e w1 ⟨rfl, hb1⟩; have HB := HB.trans hb1; clear hb1
    go_wp2_with fail
    refine (balu_at op x x x x _ _ _ _ rfl eA.out (by first | assumption | decide) (Nat.le_refl _) kx (Nat.le_refl _) ky).mono ?_
    rintro e w1 ⟨rfl, hb1⟩; have HB := HB.trans hb1; clear hb1
    go_wp2_with fail
    refine (cut_at 2 x x x x _ _ _ _ en.out (Nat.le_refl _) kx (Nat.le_refl _) ky).mono ?_
    rintro e w1 ⟨rfl, hb1⟩; have HB := HB.trans hb1; clear hb1
    go_wp2_with fail
    refine (cut_at 1 x x x x _ _ _ _ ee.out (Nat.le_refl _) kx (Nat.le_refl _) ky).mono ?_
    rintro e w1 ⟨rfl, hb1⟩; have HB := HB.trans hb1; clear hb1
    go_wp2_with (first | (go_at_call 11; refine (ends_any _ _ _ (by with_reducible assumption) (by with_reducible assumption)).mono ?_; rintro e w1 ⟨rfl, hb1⟩; have HB := HB.trans hb1; clear hb1) | (go_at_call 12; refine (has_any _ _ _ _ (by with_reducible assumption) (by with_reducible assumption) (by with_reducible assumption)).mono ?_; rintro e w1 ⟨rfl, hb1⟩; have HB := HB.trans hb1; clear hb1))
    all_goals go_ret
    all_goals exact ⟨by first | (simp; done) | (simp; omega), HB⟩
  · have en : cutS 2 x x y y = (x, x, true) := by rw [cut_ne_one, if_neg hxy]
    have ee : cutS 1 x x y y = (0, 4294967295, false) := by rw [cut_eq_one, if_neg hxy]
    have b1 : ((x : Int) == (y : Int)) = false := by simp; omega
    have b2 : ((x : Int) != (y : Int)) = true := by simp; omega
    have b3 : ¬ (x : Int) = (y : Int) := by omega
    clear hxy
    replace en := Lib.hid en
    replace ee := Lib.hid ee
    go_enter Try.func7, Try.ntmps7
    go_wp2_with (first | (go_at_call 8; refine (bawake_any _).mono ?_; rintro e w1 ⟨rfl, hb1⟩; have HB := HB.trans hb1; clear hb1))
    refine (Of_at x x x x _ _ _ rfl rfl (Nat.min_self x) (Nat.max_self x) kx kx).mono ?_
    rintro e w1 ⟨rfl, hb1⟩; have HB := HB.trans hb1; clear hb1
    go_wp2_with fail
    refine (Of_at y y y y _ _ _ rfl rfl (Nat.min_self y) (Nat.max_self y) ky ky).mono ?_
    rintro e w1 ⟨rfl, hb1⟩; have HB := HB.trans hb1; clear hb1
    go_wp2_with fail
    refine (do_at _ x y v _ _ ev.out eo.out (u32_nat kx) (u32_nat ky)).mono ?_
    rintro e w1 ⟨rfl, hb1⟩; have HB := HB.trans hb1; clear hb1
    go_wp2_with fail
    refine (balu_at op x x y y _ _ _ _ rfl eA.out (by first | assumption | decide) (Nat.le_refl _) kx (Nat.le_refl _) ky).mono ?_
    rintro e w1 ⟨rfl, hb1⟩; have HB := HB.trans hb1; clear hb1
    go_wp2_with fail
    refine (cut_at 2 x x y y _ _ _ _ en.out (Nat.le_refl _) kx (Nat.le_refl _) ky).mono ?_
    rintro e w1 ⟨rfl, hb1⟩; have HB := HB.trans hb1; clear hb1
    go_wp2_with fail
    refine (cut_at 1 x x y y _ _ _ _ ee.out (Nat.le_refl _) kx (Nat.le_refl _) ky).mono ?_
    rintro e w1 ⟨rfl, hb1⟩; have HB := HB.trans hb1; clear hb1
    go_wp2_with (first | (go_at_call 11; refine (ends_any _ _ _ (by with_reducible assumption) (by with_reducible assumption)).mono ?_; rintro e w1 ⟨rfl, hb1⟩; have HB := HB.trans hb1; clear hb1) | (go_at_call 12; refine (has_any _ _ _ _ (by with_reducible assumption) (by with_reducible assumption) (by with_reducible assumption)).mono ?_; rintro e w1 ⟨rfl, hb1⟩; have HB := HB.trans hb1; clear hb1))
    all_goals go_ret
    all_goals exact ⟨by first | (simp; done) | (simp; omega), HB⟩
set_option maxHeartbeats 4000000 in
set_option maxRecDepth 100000 in
theorem one_out ( x y v P Q : Nat) (w : World) (kx : x < 4294967296) (ky : y < 4294967296) (op : Int) (ev : Hid (aluI op x y = v)) (eo : Hid (aluOk op = false)) (hop : Hid (op < 0 ∨ 11 ≤ op)) (n0 : (op == 0) = false) (n10 : (op == 10) = false) (n4 : (op == 4) = false) : Calls Try.prog 7 #[.int .i64 op, .int .u32 x, .int .u32 y] w fun e w' => e = .returned (.bool true) ∧ Bel w w' := by
  have HB := Bel.refl w
  have q1 : (0 : Nat) ≤ 4294967295 := by decide
  have q2 : 4294967295 < 4294967296 := by decide
  have o1 := ord_eq x kx
  by_cases hxy : x = y
  · subst hxy
    have en : cutS 2 x x x x = (0, 4294967295, false) := by rw [cut_ne_one, if_pos rfl]
    have ee : cutS 1 x x x x = (x, x, true) := by rw [cut_eq_one, if_pos rfl]
    replace en := Lib.hid en
    replace ee := Lib.hid ee
    go_enter Try.func7, Try.ntmps7
    go_wp2_with (first | (go_at_call 8; refine (bawake_any _).mono ?_; rintro e w1 ⟨rfl, hb1⟩; have HB := HB.trans hb1; clear hb1))
    refine (Of_at x x x x _ _ _ rfl rfl (Nat.min_self x) (Nat.max_self x) kx kx).mono ?_
    rintro e w1 ⟨rfl, hb1⟩; have HB := HB.trans hb1; clear hb1
    go_wp2_with fail
    refine (Of_at x x x x _ _ _ rfl rfl (Nat.min_self x) (Nat.max_self x) ky ky).mono ?_
    rintro e w1 ⟨rfl, hb1⟩; have HB := HB.trans hb1; clear hb1
    go_wp2_with fail
    refine (do_at _ x x v _ _ ev.out eo.out (u32_nat kx) (u32_nat ky)).mono ?_
    rintro e w1 ⟨rfl, hb1⟩; have HB := HB.trans hb1; clear hb1
    go_wp2_with fail
    refine (balu_out op x x x x _ hop.out).mono ?_
    rintro e w1 ⟨rfl, hb1⟩; have HB := HB.trans hb1; clear hb1
    go_wp2_with fail
    refine (cut_at 2 x x x x _ _ _ _ en.out (Nat.le_refl _) kx (Nat.le_refl _) ky).mono ?_
    rintro e w1 ⟨rfl, hb1⟩; have HB := HB.trans hb1; clear hb1
    go_wp2_with fail
    refine (cut_at 1 x x x x _ _ _ _ ee.out (Nat.le_refl _) kx (Nat.le_refl _) ky).mono ?_
    rintro e w1 ⟨rfl, hb1⟩; have HB := HB.trans hb1; clear hb1
    go_wp2_with (first | (go_at_call 11; refine (ends_any _ _ _ (by with_reducible assumption) (by with_reducible assumption)).mono ?_; rintro e w1 ⟨rfl, hb1⟩; have HB := HB.trans hb1; clear hb1) | (go_at_call 12; refine (has_any _ _ _ _ (by with_reducible assumption) (by with_reducible assumption) (by with_reducible assumption)).mono ?_; rintro e w1 ⟨rfl, hb1⟩; have HB := HB.trans hb1; clear hb1))
    all_goals go_ret
    all_goals exact ⟨by first | (simp; done) | (simp; omega), HB⟩
  · have en : cutS 2 x x y y = (x, x, true) := by rw [cut_ne_one, if_neg hxy]
    have ee : cutS 1 x x y y = (0, 4294967295, false) := by rw [cut_eq_one, if_neg hxy]
    have b1 : ((x : Int) == (y : Int)) = false := by simp; omega
    have b2 : ((x : Int) != (y : Int)) = true := by simp; omega
    have b3 : ¬ (x : Int) = (y : Int) := by omega
    clear hxy
    replace en := Lib.hid en
    replace ee := Lib.hid ee
    go_enter Try.func7, Try.ntmps7
    go_wp2_with (first | (go_at_call 8; refine (bawake_any _).mono ?_; rintro e w1 ⟨rfl, hb1⟩; have HB := HB.trans hb1; clear hb1))
    refine (Of_at x x x x _ _ _ rfl rfl (Nat.min_self x) (Nat.max_self x) kx kx).mono ?_
    rintro e w1 ⟨rfl, hb1⟩; have HB := HB.trans hb1; clear hb1
    go_wp2_with fail
    refine (Of_at y y y y _ _ _ rfl rfl (Nat.min_self y) (Nat.max_self y) ky ky).mono ?_
    rintro e w1 ⟨rfl, hb1⟩; have HB := HB.trans hb1; clear hb1
    go_wp2_with fail
    refine (do_at _ x y v _ _ ev.out eo.out (u32_nat kx) (u32_nat ky)).mono ?_
    rintro e w1 ⟨rfl, hb1⟩; have HB := HB.trans hb1; clear hb1
    go_wp2_with fail
    refine (balu_out op x x y y _ hop.out).mono ?_
    rintro e w1 ⟨rfl, hb1⟩; have HB := HB.trans hb1; clear hb1
    go_wp2_with fail
    refine (cut_at 2 x x y y _ _ _ _ en.out (Nat.le_refl _) kx (Nat.le_refl _) ky).mono ?_
    rintro e w1 ⟨rfl, hb1⟩; have HB := HB.trans hb1; clear hb1
    go_wp2_with fail
    refine (cut_at 1 x x y y _ _ _ _ ee.out (Nat.le_refl _) kx (Nat.le_refl _) ky).mono ?_
    rintro e w1 ⟨rfl, hb1⟩; have HB := HB.trans hb1; clear hb1
    go_wp2_with (first | (go_at_call 11; refine (ends_any _ _ _ (by with_reducible assumption) (by with_reducible assumption)).mono ?_; rintro e w1 ⟨rfl, hb1⟩; have HB := HB.trans hb1; clear hb1) | (go_at_call 12; refine (has_any _ _ _ _ (by with_reducible assumption) (by with_reducible assumption) (by with_reducible assumption)).mono ?_; rintro e w1 ⟨rfl, hb1⟩; have HB := HB.trans hb1; clear hb1))
    all_goals go_ret
    all_goals exact ⟨by first | (simp; done) | (simp; omega), HB⟩
set_option maxHeartbeats 4000000 in
set_option maxRecDepth 100000 in
theorem BoundsOne_walk (op x y : Int) (w : World) (wop : (Lit.int .i64 op).wf = true) (wx : (Lit.int .u32 x).wf = true) (wy : (Lit.int .u32 y).wf = true) :
    Calls Try.prog 7 #[.int .i64 op, .int .u32 x, .int .u32 y] w fun e w' => e = .returned (.bool true) ∧ Bel w w' := by
  obtain ⟨x, rfl, kx⟩ := nat_u32 (u32_of_wf wx)
  obtain ⟨y, rfl, ky⟩ := nat_u32 (u32_of_wf wy)
  have hu := aluI_u32 op (u32_nat kx) (u32_nat ky)
  obtain ⟨v, ev⟩ : ∃ n : Nat, aluI op x y = n := ⟨(aluI op x y).toNat, by have := hu.lo; omega⟩
  by_cases hop : 0 ≤ op ∧ op < 11
  · have eo : aluOk op = true := decide_eq_true hop
    obtain ⟨n, rfl⟩ : ∃ n : Nat, op = n := ⟨op.toNat, by omega⟩
    have hn : n < 11 := by omega
    obtain ⟨⟨P, Q⟩, eA⟩ : ∃ A, aluS n x x y y = A := ⟨_, rfl⟩
    have hw := aluS_law (Nat.le_refl x) (Nat.le_refl x) (Nat.le_refl y) (Nat.le_refl y) kx ky n hn
    rw [eA, ev] at hw
    obtain ⟨z1, z2, z3, z4⟩ := hw
    have z1' : P ≤ Q := z1
    have z2' : Q < 4294967296 := z2
    have kv : v < 4294967296 := by simp only at *; omega
    have g3 : decide (P ≤ v ∧ v ≤ Q) = true := by simp only [decide_eq_true_eq] at *; omega
    by_cases n0 : n = 0
    · subst n0
      have e1 := v_mov x y
      have e2 := exact_mov x y
      rw [e2] at eA
      cases eA
      have : v = y := by have := ev.symm.trans e1; omega
      subst this
      exact one_mov x v v v v w kx ky (Lib.hid ev) (Lib.hid eo) (Lib.hid e2) z1' z2' kv g3 rfl rfl
    by_cases n10 : n = 10
    · subst n10
      have e1 := v_shr x y
      have e2 := exact_shr x y
      rw [e2] at eA
      cases eA
      have : v = x / 2 ^ (y % 32) := by have := ev.symm.trans e1; omega
      exact one_shr x y v _ _ w kx ky (Lib.hid ev) (Lib.hid eo) (Lib.hid e2) z1' z2' kv g3 this this
    by_cases n4 : n = 4
    · subst n4
      by_cases hy : y = 0
      · exact one_divZ x y v P Q w kx ky (Lib.hid ev) (Lib.hid eo) (Lib.hid eA) z1' z2' kv g3 (by omega)
      · have e1 := v_div x y hy
        have e2 := exact_div x y hy
        rw [e2] at eA
        cases eA
        have : v = x / y := by have := ev.symm.trans e1; omega
        exact one_div x y v _ _ w kx ky (Lib.hid ev) (Lib.hid eo) (Lib.hid e2) z1' z2' kv g3 this this (by omega)
    exact one_oth n x y v P Q w kx ky (Lib.hid ev) (Lib.hid eo) (Lib.hid eA) z1' z2' kv g3 hn (by simp; omega) (by simp; omega) (by simp; omega)
  · have eo : aluOk op = false := decide_eq_false hop
    exact one_out x y v 0 0 w kx ky op (Lib.hid ev) (Lib.hid eo) (Lib.hid (by omega)) (by simp; omega) (by simp; omega) (by simp; omega)
end Go.Proofs.Ytpmkefngngjhkaa
