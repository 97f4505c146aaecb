/- What two words come to is within what their bounds come to. No program in sight. -/
import Derived.Test.YtebdnobgdimdoaaBnd4
set_option linter.unusedVariables false
set_option linter.unusedSimpArgs false
namespace Go.Proofs.Ytebdnobgdimdoaa
open Go.RowKit
theorem u32_nat {a : Nat} (h : a < 4294967296) : U32 (a : Int) := ⟨by omega, by omega⟩
/-- a word v is within the two bounds A -/
def Within (A : Nat × Nat) (v : Int) : Prop := A.1 ≤ A.2 ∧ A.2 < 4294967296 ∧ (A.1 : Int) ≤ v ∧ v ≤ A.2
theorem within_all {v : Int} (h : U32 v) : Within (0, 4294967295) v := ⟨by decide, by decide, h.lo, by have := h.hi; simp; omega⟩
theorem fit_within {a b n : Nat} (h1 : a ≤ n) (h2 : n ≤ b) : Within (fitS a b) (((n % 4294967296 : Nat)) : Int) := by
  unfold fitS
  split
  · exact within_all (u32_nat (Nat.mod_lt _ (by decide)))
  · refine ⟨?_, ?_, ?_, ?_⟩ <;> simp <;> omega
theorem law_0 {p1 q1 p2 q2 x y : Nat} (h1 : p1 ≤ x) (h2 : x ≤ q1) (h3 : p2 ≤ y) (h4 : y ≤ q2) (hq1 : q1 < 4294967296) (hq2 : q2 < 4294967296) : Within (aluS 0 p1 q1 p2 q2) (aluI 0 x y) := by
  rw [aluI_0]; refine ⟨?_, ?_, ?_, ?_⟩ <;> simp [aluS] <;> omega
theorem law_1 {p1 q1 p2 q2 x y : Nat} (h1 : p1 ≤ x) (h2 : x ≤ q1) (h3 : p2 ≤ y) (h4 : y ≤ q2) (hq1 : q1 < 4294967296) (hq2 : q2 < 4294967296) : Within (aluS 1 p1 q1 p2 q2) (aluI 1 x y) := by
  rw [aluI_1, show ((x : Int) + y) % 4294967296 = (((x + y) % 4294967296 : Nat) : Int) by omega]
  exact fit_within (by omega) (by omega)
theorem law_2 {p1 q1 p2 q2 x y : Nat} (h1 : p1 ≤ x) (h2 : x ≤ q1) (h3 : p2 ≤ y) (h4 : y ≤ q2) (hq1 : q1 < 4294967296) (hq2 : q2 < 4294967296) : Within (aluS 2 p1 q1 p2 q2) (aluI 2 x y) := by
  have hu := aluI_u32 2 (u32_nat (a := x) (by omega)) (u32_nat (a := y) (by omega))
  show Within (if p1 < q2 then (0, 4294967295) else (p1 - q2, q1 - p2)) _
  split
  · exact within_all hu
  · rw [aluI_2]
    refine ⟨?_, ?_, ?_, ?_⟩ <;> simp <;> omega
theorem law_3 {p1 q1 p2 q2 x y : Nat} (h1 : p1 ≤ x) (h2 : x ≤ q1) (h3 : p2 ≤ y) (h4 : y ≤ q2) (hq1 : q1 < 4294967296) (hq2 : q2 < 4294967296) : Within (aluS 3 p1 q1 p2 q2) (aluI 3 x y) := by
  rw [aluI_3, show ((x : Int) * y) % 4294967296 = (((x * y) % 4294967296 : Nat) : Int) by simp]
  exact fit_within (Nat.mul_le_mul h1 h3) (Nat.mul_le_mul h2 h4)
theorem law_4 {p1 q1 p2 q2 x y : Nat} (h1 : p1 ≤ x) (h2 : x ≤ q1) (h3 : p2 ≤ y) (h4 : y ≤ q2) (hq1 : q1 < 4294967296) (hq2 : q2 < 4294967296) : Within (aluS 4 p1 q1 p2 q2) (aluI 4 x y) := by
  show Within (if p2 = 0 then (0, q1) else (p1 / q2, q1 / p2)) _
  have e : aluI 4 x y = ((x / y : Nat) : Int) := by
    rw [aluI_4]
    split
    · have : y = 0 := by omega
      subst this; simp
    · simp
  have hd : x / y ≤ x := Nat.div_le_self _ _
  rw [e]
  split
  · generalize x / y = d at *
    refine ⟨?_, ?_, ?_, ?_⟩ <;> simp only <;> omega
  · have a1 : p1 / q2 ≤ x / y := Nat.div_le_div h1 h4 (by omega)
    have a2 : x / y ≤ q1 / p2 := Nat.div_le_div h2 h3 (by omega)
    have a3 : q1 / p2 ≤ q1 := Nat.div_le_self _ _
    refine ⟨?_, ?_, ?_, ?_⟩ <;> simp only <;> omega
theorem law_5 {p1 q1 p2 q2 x y : Nat} (h1 : p1 ≤ x) (h2 : x ≤ q1) (h3 : p2 ≤ y) (h4 : y ≤ q2) (hq1 : q1 < 4294967296) (hq2 : q2 < 4294967296) : Within (aluS 5 p1 q1 p2 q2) (aluI 5 x y) := by
  show Within (if q1 < p2 then (p1, q1) else if p2 = 0 then (0, q1) else (0, nmin q1 (q2 - 1))) _
  have e : aluI 5 x y = ((x % y : Nat) : Int) := by
    rw [aluI_5]
    split
    · have : y = 0 := by omega
      subst this; simp
    · simp
  have hd : x % y ≤ x := Nat.mod_le _ _
  rw [e]
  split
  · rw [Nat.mod_eq_of_lt (by omega)]
    refine ⟨?_, ?_, ?_, ?_⟩ <;> simp only <;> omega
  · split
    · refine ⟨?_, ?_, ?_, ?_⟩ <;> simp only <;> omega
    · have := Nat.mod_lt x (show 0 < y by omega)
      refine ⟨?_, ?_, ?_, ?_⟩ <;> simp only [nmin] <;> omega
theorem law_6 {p1 q1 p2 q2 x y : Nat} (h1 : p1 ≤ x) (h2 : x ≤ q1) (h3 : p2 ≤ y) (h4 : y ≤ q2) (hq1 : q1 < 4294967296) (hq2 : q2 < 4294967296) : Within (aluS 6 p1 q1 p2 q2) (aluI 6 x y) := by
  rw [aluI_and (u32_nat (by omega)) (u32_nat (by omega))]
  simp only [Int.toNat_natCast]
  have a1 : x &&& y ≤ x := Nat.and_le_left
  have a2 : x &&& y ≤ y := Nat.and_le_right
  refine ⟨?_, ?_, ?_, ?_⟩ <;> simp only [aluS, nmin] <;> omega
theorem or_lt_pow {p1 q1 p2 q2 x y : Nat} (h1 : p1 ≤ x) (h2 : x ≤ q1) (h3 : p2 ≤ y) (h4 : y ≤ q2) (hq1 : q1 < 4294967296) (hq2 : q2 < 4294967296) : x ||| y < powS q1 q2 ∧ x ^^^ y < powS q1 q2 := by
  obtain ⟨k, hk⟩ := powS_pow q1 q2
  have hg := powS_gt q1 q2
  rw [hk] at hg ⊢
  exact ⟨Nat.or_lt_two_pow (by omega) (by omega), Nat.xor_lt_two_pow (by omega) (by omega)⟩
theorem law_7 {p1 q1 p2 q2 x y : Nat} (h1 : p1 ≤ x) (h2 : x ≤ q1) (h3 : p2 ≤ y) (h4 : y ≤ q2) (hq1 : q1 < 4294967296) (hq2 : q2 < 4294967296) : Within (aluS 7 p1 q1 p2 q2) (aluI 7 x y) := by
  rw [aluI_or (u32_nat (by omega)) (u32_nat (by omega))]
  simp only [Int.toNat_natCast]
  have a1 : x ≤ x ||| y := Nat.left_le_or
  have a2 : y ≤ x ||| y := Nat.right_le_or
  have a3 := (or_lt_pow h1 h2 h3 h4 hq1 hq2).1
  have a4 := powS_le hq1 hq2
  have a5 := powS_one q1 q2
  refine ⟨?_, ?_, ?_, ?_⟩ <;> simp only [aluS, nmax] <;> omega
theorem law_8 {p1 q1 p2 q2 x y : Nat} (h1 : p1 ≤ x) (h2 : x ≤ q1) (h3 : p2 ≤ y) (h4 : y ≤ q2) (hq1 : q1 < 4294967296) (hq2 : q2 < 4294967296) : Within (aluS 8 p1 q1 p2 q2) (aluI 8 x y) := by
  rw [aluI_xor (u32_nat (by omega)) (u32_nat (by omega))]
  simp only [Int.toNat_natCast]
  have a3 := (or_lt_pow h1 h2 h3 h4 hq1 hq2).2
  have a4 := powS_le hq1 hq2
  have a5 := powS_one q1 q2
  refine ⟨?_, ?_, ?_, ?_⟩ <;> simp only [aluS] <;> omega
theorem law_9 {p1 q1 p2 q2 x y : Nat} (h1 : p1 ≤ x) (h2 : x ≤ q1) (h3 : p2 ≤ y) (h4 : y ≤ q2) (hq1 : q1 < 4294967296) (hq2 : q2 < 4294967296) : Within (aluS 9 p1 q1 p2 q2) (aluI 9 x y) := by
  have hu := aluI_u32 9 (u32_nat (a := x) (by omega)) (u32_nat (a := y) (by omega))
  show Within (if p2 = q2 then fitS (p1 * 2 ^ (p2 % 32)) (q1 * 2 ^ (p2 % 32)) else (0, 4294967295)) _
  split
  · obtain rfl : y = p2 := by omega
    have e : aluI 9 x y = ((x * 2 ^ (y % 32) % 4294967296 : Nat) : Int) := by
      rw [aluI_9, show ((y : Int) % 32).toNat = y % 32 by omega]; simp
    rw [e]
    exact fit_within (Nat.mul_le_mul_right _ h1) (Nat.mul_le_mul_right _ h2)
  · exact within_all hu
theorem law_10 {p1 q1 p2 q2 x y : Nat} (h1 : p1 ≤ x) (h2 : x ≤ q1) (h3 : p2 ≤ y) (h4 : y ≤ q2) (hq1 : q1 < 4294967296) (hq2 : q2 < 4294967296) : Within (aluS 10 p1 q1 p2 q2) (aluI 10 x y) := by
  have e : aluI 10 x y = ((x / 2 ^ (y % 32) : Nat) : Int) := by
    rw [aluI_10, show ((y : Int) % 32).toNat = y % 32 by omega]; simp
  have hd : x / 2 ^ (y % 32) ≤ x := Nat.div_le_self _ _
  rw [e]
  show Within (if p2 = q2 then (p1 / 2 ^ (p2 % 32), q1 / 2 ^ (p2 % 32)) else (0, q1)) _
  split
  · obtain rfl : y = p2 := by omega
    have a1 : p1 / 2 ^ (y % 32) ≤ x / 2 ^ (y % 32) := Nat.div_le_div_right h1
    have a2 : x / 2 ^ (y % 32) ≤ q1 / 2 ^ (y % 32) := Nat.div_le_div_right h2
    have a3 : q1 / 2 ^ (y % 32) ≤ q1 := Nat.div_le_self _ _
    refine ⟨?_, ?_, ?_, ?_⟩ <;> simp only <;> omega
  · generalize x / 2 ^ (y % 32) = d at *
    refine ⟨?_, ?_, ?_, ?_⟩ <;> simp only <;> omega
theorem aluS_law {p1 q1 p2 q2 x y : Nat} (h1 : p1 ≤ x) (h2 : x ≤ q1) (h3 : p2 ≤ y) (h4 : y ≤ q2) (hq1 : q1 < 4294967296) (hq2 : q2 < 4294967296) (op : Nat) (hop : op < 11) : Within (aluS op p1 q1 p2 q2) (aluI op x y) := by
  match op, hop with
  | 0, _ => exact law_0 h1 h2 h3 h4 hq1 hq2
  | 1, _ => exact law_1 h1 h2 h3 h4 hq1 hq2
  | 2, _ => exact law_2 h1 h2 h3 h4 hq1 hq2
  | 3, _ => exact law_3 h1 h2 h3 h4 hq1 hq2
  | 4, _ => exact law_4 h1 h2 h3 h4 hq1 hq2
  | 5, _ => exact law_5 h1 h2 h3 h4 hq1 hq2
  | 6, _ => exact law_6 h1 h2 h3 h4 hq1 hq2
  | 7, _ => exact law_7 h1 h2 h3 h4 hq1 hq2
  | 8, _ => exact law_8 h1 h2 h3 h4 hq1 hq2
  | 9, _ => exact law_9 h1 h2 h3 h4 hq1 hq2
  | 10, _ => exact law_10 h1 h2 h3 h4 hq1 hq2
  | n + 11, h => exact absurd h (by omega)
/-- A is no less than B -/
def Wider (A B : Nat × Nat) : Prop := A.1 ≤ B.1 ∧ B.2 ≤ A.2 ∧ A.1 ≤ A.2 ∧ A.2 < 4294967296 ∧ B.1 ≤ B.2
theorem powS_mono {a b a' b' : Nat} (h : a ≤ a') (k : b ≤ b') : powS a b ≤ powS a' b' := by
  obtain ⟨n, hn⟩ := powS_pow a' b'
  have hg := powS_gt a' b'
  rw [hn] at hg ⊢
  unfold powS
  split
  · exact Nat.one_le_two_pow
  · next hm =>
    apply Nat.pow_le_pow_right (by decide)
    have : max a b < 2 ^ n := by omega
    have := (Nat.log2_lt hm).2 this
    omega
theorem fit_wider {a b a' b' : Nat} (h : a' ≤ a) (k : b ≤ b') (l : a ≤ b) : Wider (fitS a' b') (fitS a b) := by
  unfold fitS Wider
  split <;> split <;> refine ⟨?_, ?_, ?_, ?_, ?_⟩ <;> simp only <;> omega
section
theorem wide_law {p1 q1 p2 q2 p1' q1' p2' q2' : Nat} (h1 : p1 ≤ q1) (h2 : p2 ≤ q2) (hq1 : q1' < 4294967296) (hq2 : q2' < 4294967296) (k1 : p1' ≤ p1) (k2 : q1 ≤ q1') (k3 : p2' ≤ p2) (k4 : q2 ≤ q2')
    (op : Nat) (hop : op ≤ 8) (h5 : op ≠ 5) : Wider (aluS op p1' q1' p2' q2') (aluS op p1 q1 p2 q2) := by
  match op, hop, h5 with
  | 0, _, _ => refine ⟨?_, ?_, ?_, ?_, ?_⟩ <;> simp only [aluS] <;> omega
  | 1, _, _ => exact fit_wider (by omega) (by omega) (by omega)
  | 2, _, _ =>
    show Wider (if p1' < q2' then (0, 4294967295) else (p1' - q2', q1' - p2')) (if p1 < q2 then (0, 4294967295) else (p1 - q2, q1 - p2))
    unfold Wider
    split <;> split <;> refine ⟨?_, ?_, ?_, ?_, ?_⟩ <;> simp only <;> omega
  | 3, _, _ => exact fit_wider (Nat.mul_le_mul k1 k3) (Nat.mul_le_mul k2 k4) (Nat.mul_le_mul h1 h2)
  | 4, _, _ =>
    show Wider (if p2' = 0 then (0, q1') else (p1' / q2', q1' / p2')) (if p2 = 0 then (0, q1) else (p1 / q2, q1 / p2))
    have d1 : q1 / p2 ≤ q1 := Nat.div_le_self _ _
    have d2 : q1' / p2' ≤ q1' := Nat.div_le_self _ _
    by_cases c : p2' = 0
    · rw [if_pos c]
      split
      · refine ⟨?_, ?_, ?_, ?_, ?_⟩ <;> simp only <;> omega
      · have d3 : p1 / q2 ≤ q1 / p2 := Nat.div_le_div h1 h2 (by omega)
        clear d2
        generalize p1 / q2 = u at *
        generalize q1 / p2 = v at *
        refine ⟨?_, ?_, ?_, ?_, ?_⟩ <;> simp only <;> omega
    · rw [if_neg c, if_neg (by omega)]
      have d3 : p1 / q2 ≤ q1 / p2 := Nat.div_le_div h1 h2 (by omega)
      have d4 : p1' / q2' ≤ p1 / q2 := Nat.div_le_div k1 k4 (by omega)
      have d5 : q1 / p2 ≤ q1' / p2' := Nat.div_le_div k2 k3 (by omega)
      generalize p1 / q2 = u at *
      generalize q1 / p2 = v at *
      generalize p1' / q2' = u' at *
      generalize q1' / p2' = v' at *
      refine ⟨?_, ?_, ?_, ?_, ?_⟩ <;> simp only <;> omega
  | 6, _, _ => refine ⟨?_, ?_, ?_, ?_, ?_⟩ <;> simp only [aluS, nmin] <;> omega
  | 7, _, _ =>
    have a1 := powS_mono k2 k4
    have a2 := powS_le hq1 hq2
    have a3 := powS_gt q1 q2
    refine ⟨?_, ?_, ?_, ?_, ?_⟩ <;> simp only [aluS, nmax] <;> omega
  | 8, _, _ =>
    have a1 := powS_mono k2 k4
    have a2 := powS_le hq1 hq2
    have a3 := powS_gt q1 q2
    refine ⟨?_, ?_, ?_, ?_, ?_⟩ <;> simp only [aluS] <;> omega
  | 5, _, h => exact absurd rfl h
  | n + 9, h, _ => exact absurd h (by omega)
end
theorem exact_mov (x y : Nat) : aluS 0 x x y y = (y, y) := rfl
theorem exact_shr (x y : Nat) : aluS 10 x x y y = (x / 2 ^ (y % 32), x / 2 ^ (y % 32)) := if_pos rfl
theorem exact_div (x y : Nat) (h : y ≠ 0) : aluS 4 x x y y = (x / y, x / y) := if_neg h
theorem v_mov (x y : Nat) : aluI 0 x y = (y : Nat) := by rw [aluI_0]
theorem v_shr (x y : Nat) : aluI 10 x y = ((x / 2 ^ (y % 32) : Nat) : Int) := by
  rw [aluI_10, show ((y : Int) % 32).toNat = y % 32 by omega]; simp
theorem v_div (x y : Nat) (h : y ≠ 0) : aluI 4 x y = ((x / y : Nat) : Int) := by
  rw [aluI_4, if_neg (by omega)]; simp
end Go.Proofs.Ytebdnobgdimdoaa
