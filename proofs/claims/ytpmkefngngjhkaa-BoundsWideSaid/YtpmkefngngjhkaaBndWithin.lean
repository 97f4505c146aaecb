/- 'within' by its contract. -/
import Derived.Test.YtpmkefngngjhkaaBndLaws
set_option linter.unusedVariables false
set_option linter.unusedSimpArgs false
namespace Go.Proofs.Ytpmkefngngjhkaa
open Go.RowKit
theorem nat_u32 {a : Int} (h : U32 a) : ∃ n : Nat, a = n ∧ n < 4294967296 := ⟨a.toNat, by have := h.lo; omega, by have := h.lo; have := h.hi; omega⟩
theorem join_at (l1 h1 l2 h2 p q : Nat) (w : World) (hp : nmin l1 l2 = p) (hq : nmax h1 h2 = q) (hl1 : l1 ≤ h1) (hh1 : h1 < 4294967296) (hl2 : l2 ≤ h2) (hh2 : h2 < 4294967296) :
    Calls Try.prog 10 #[.complex .f64 (fl l1) (fl h1), .complex .f64 (fl l2) (fl h2)] w fun e w' => e = .returned (.complex .f64 (fl p) (fl q)) ∧ Bel w w' := by
  subst hp; subst hq; exact join_any l1 h1 l2 h2 w hl1 hh1 hl2 hh2
theorem within_mod {p q f : Nat} (h : p ≤ q) : (f : Int) % ((q : Int) - (p : Int) + 1) = ((f % (q - p + 1) : Nat) : Int) := by
  have : (q : Int) - (p : Int) + 1 = ((q - p + 1 : Nat) : Int) := by omega
  rw [this]; simp
theorem within_le {p q f : Nat} (h : p ≤ q) : p + f % (q - p + 1) ≤ q := by
  have := Nat.mod_lt f (show 0 < q - p + 1 by omega); omega
set_option maxHeartbeats 1000000 in
theorem within_le_any (p q f : Nat) (w : World) (h : p ≤ q) (hq : q < 4294967296) (hf : f < 4294967296) :
    Calls Try.prog 14 #[.int .u32 p, .int .u32 q, .int .u32 f] w fun e w' => e = .returned (.tuple #[.complex .f64 (fl p) (fl q), .int .u32 (p + f % (q - p + 1) : Nat)]) ∧ Bel w w' := by
  have HB := Bel.refl w
  have m1 := within_mod (f := f) h
  have m2 := within_le (f := f) h
  have m3 : ((q : Int) - (p : Int) + 1 == 0) = false := by simp; omega
  have m3' : ¬ ((q : Int) - (p : Int) + 1 = 0) := by omega
  generalize hr : f % (q - p + 1) = r at *
  clear hr
  have w1 : IntKind.i64.wrap (r : Int) = r := by simp only [IntKind.wrap]; simp [go_sem]; omega
  have w2 : IntKind.i64.wrap ((p : Int) + (r : Int)) = (p : Int) + (r : Int) := by simp only [IntKind.wrap]; simp [go_sem]; omega
  have w3 : IntKind.u32.wrap ((p : Int) + (r : Int)) = (p : Int) + (r : Int) := by simp [IntKind.wrap, IntKind.bits, IntKind.signed]; omega
  have m1' : (f : Int).tmod ((q : Int) - (p : Int) + 1) = r := by rw [Int.tmod_eq_emod_of_nonneg (by omega)]; exact m1
  have w4 : IntKind.i64.wrap (p : Int) = p := by simp only [IntKind.wrap]; simp [go_sem]; omega
  have w5 : IntKind.i64.wrap (f : Int) = f := by simp only [IntKind.wrap]; simp [go_sem]; omega
  have m4 : ¬ (q : Int) < (p : Int) := by omega
  go_enter Try.func14, Try.ntmps14
  go_wp2_with fail
  go_region_held3 (fun w' => Bel w w') (first | (with_reducible assumption) | (with_reducible refine Bel.trans ?_ hb1; with_reducible assumption) | (with_reducible refine Bel.drew ?_; first | (with_reducible assumption) | (with_reducible refine Bel.trans ?_ hb1; with_reducible assumption))) (first | (go_at_call 9; refine (Of_at p q p q _ _ _ (by rfl) (by rfl) (Nat.min_eq_left h) (Nat.max_eq_right h) (by omega) (by omega)).mono ?_; rintro e w1 ⟨rfl, hb1⟩))
  all_goals go_wp2_with fail
  all_goals go_ret2
  all_goals exact ⟨by simp, by with_reducible assumption⟩
set_option maxHeartbeats 1000000 in
theorem within_gt_any (p q f : Nat) (w : World) (h : p < q) (hq : q < 4294967296) (hf : f < 4294967296) :
    Calls Try.prog 14 #[.int .u32 q, .int .u32 p, .int .u32 f] w fun e w' => e = .returned (.tuple #[.complex .f64 (fl p) (fl q), .int .u32 (p + f % (q - p + 1) : Nat)]) ∧ Bel w w' := by
  have HB := Bel.refl w
  have m1 := within_mod (f := f) (Nat.le_of_lt h)
  have m2 := within_le (f := f) (Nat.le_of_lt h)
  have m3 : ((q : Int) - (p : Int) + 1 == 0) = false := by simp; omega
  have m3' : ¬ ((q : Int) - (p : Int) + 1 = 0) := by omega
  generalize hr : f % (q - p + 1) = r at *
  clear hr
  have w1 : IntKind.i64.wrap (r : Int) = r := by simp only [IntKind.wrap]; simp [go_sem]; omega
  have w2 : IntKind.i64.wrap ((p : Int) + (r : Int)) = (p : Int) + (r : Int) := by simp only [IntKind.wrap]; simp [go_sem]; omega
  have w3 : IntKind.u32.wrap ((p : Int) + (r : Int)) = (p : Int) + (r : Int) := by simp [IntKind.wrap, IntKind.bits, IntKind.signed]; omega
  have m1' : (f : Int).tmod ((q : Int) - (p : Int) + 1) = r := by rw [Int.tmod_eq_emod_of_nonneg (by omega)]; exact m1
  have w4 : IntKind.i64.wrap (p : Int) = p := by simp only [IntKind.wrap]; simp [go_sem]; omega
  have w5 : IntKind.i64.wrap (f : Int) = f := by simp only [IntKind.wrap]; simp [go_sem]; omega
  have m4 : (p : Int) < (q : Int) := by omega
  go_enter Try.func14, Try.ntmps14
  go_wp2_with fail
  go_region_held3 (fun w' => Bel w w') (first | (with_reducible assumption) | (with_reducible refine Bel.trans ?_ hb1; with_reducible assumption) | (with_reducible refine Bel.drew ?_; first | (with_reducible assumption) | (with_reducible refine Bel.trans ?_ hb1; with_reducible assumption))) (first | (go_at_call 9; refine (Of_at p q p q _ _ _ (by rfl) (by rfl) (Nat.min_eq_left (Nat.le_of_lt h)) (Nat.max_eq_right (Nat.le_of_lt h)) (by omega) (by omega)).mono ?_; rintro e w1 ⟨rfl, hb1⟩))
  all_goals go_wp2_with fail
  all_goals go_ret2
  all_goals exact ⟨by simp, by with_reducible assumption⟩
theorem within_at (l h f p q x : Nat) (w : World) (hp : min l h = p) (hq : max l h = q) (hx : p + f % (q - p + 1) = x) (hl : l < 4294967296) (hh : h < 4294967296) (hf : f < 4294967296) :
    Calls Try.prog 14 #[.int .u32 l, .int .u32 h, .int .u32 f] w fun e w' => e = .returned (.tuple #[.complex .f64 (fl p) (fl q), .int .u32 x]) ∧ Bel w w' := by
  subst hx
  by_cases c : l ≤ h
  · obtain rfl : l = p := by omega
    obtain rfl : h = q := by omega
    exact within_le_any l h f w c hh hf
  · obtain rfl : h = p := by omega
    obtain rfl : l = q := by omega
    exact within_gt_any h l f w (by omega) hl hf
end Go.Proofs.Ytpmkefngngjhkaa
