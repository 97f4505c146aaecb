/- Whole numbers below 2^53 as floats of 64 bits: they are kept exactly, stand as the numbers do, and come back as they were. Nothing of the program. -/
import Derived.Laws.FloatArith
set_option linter.unusedVariables false
set_option linter.unusedSimpArgs false
namespace Go.Proofs.Ytebdnobgdimdoaa
open Ieee

/-- A number as a float. -/
def fl (n : Nat) : Nat := Ieee.double.write (Datum.number false n 0)

theorem fl_zero : fl 0 = 0 := by decide
theorem read_zero : Ieee.double.read 0 = Datum.number false 0 (-1074) := by decide

theorem read_write {n : Nat} (h0 : 0 < n) (h1 : n < 2 ^ 53) : Ieee.double.read (fl n) = Datum.number false (n * 2 ^ (52 - n.log2)) (-((52 - n.log2 : Nat) : Int)) := by
  have hL : n.log2 ≤ 52 := by have := (Nat.log2_lt (by omega)).2 h1; omega
  have hlo : 2 ^ n.log2 ≤ n := Nat.log2_self_le (by omega)
  have hhi : n < 2 ^ (n.log2 + 1) := Nat.lt_log2_self
  obtain ⟨L, hLe⟩ : ∃ L, n.log2 = L := ⟨_, rfl⟩
  rw [hLe] at hL hlo hhi ⊢
  obtain ⟨m, hm⟩ : ∃ m, n * 2 ^ (52 - L) = m := ⟨_, rfl⟩
  have hm1 : 2 ^ 52 ≤ m := by
    rw [← hm]
    calc 2 ^ 52 = 2 ^ L * 2 ^ (52 - L) := by rw [← Nat.pow_add]; congr 1; omega
      _ ≤ n * 2 ^ (52 - L) := Nat.mul_le_mul_right _ hlo
  have hm2 : m < 2 ^ 53 := by
    rw [← hm]
    calc n * 2 ^ (52 - L) < 2 ^ (L + 1) * 2 ^ (52 - L) := Nat.mul_lt_mul_of_pos_right hhi (Nat.pow_pos (by decide))
      _ = 2 ^ 53 := by rw [← Nat.pow_add]; congr 1; omega
  have hfl : fl n = (L + 1022) * 2 ^ 52 + m := by
    unfold fl Format.write Format.nearest
    simp only
    rw [if_neg (by omega), hLe]
    have e1 : max ((0 : Int) + (L : Int) - ((Ieee.double.fractionBits : Nat) : Int)) Ieee.double.leastPlace = (L : Int) - 52 := by
      have : Ieee.double.leastPlace = -1074 := by decide
      have h2 : Ieee.double.fractionBits = 52 := rfl
      rw [this, h2]; omega
    rw [e1]
    have e2 : ((0 : Int) - ((L : Int) - 52)).toNat = 52 - L := by omega
    have e3 : ((L : Int) - 52 - 0).toNat = 0 := by omega
    have e4 : ((L : Int) - 52 - Ieee.double.leastPlace).toNat = L + 1022 := by
      have : Ieee.double.leastPlace = -1074 := by decide
      rw [this]; omega
    rw [e2, e3, e4, Nat.shiftLeft_eq, hm]
    have e5 : Toward.even.cut false m 0 = m := by
      simp [Toward.cut, Nat.mod_one]
    rw [e5]
    have e6 : Ieee.double.binade = 2 ^ 52 := rfl
    have e7 : Ieee.double.infRung = 2047 * 2 ^ 52 := by decide
    rw [e6, e7, Nat.min_eq_left (by omega)]
    rfl
  rw [hfl, hm]
  unfold Format.read
  have s1 : Ieee.double.signWeight = 2 ^ 63 := by decide
  have s2 : Ieee.double.binade = 2 ^ 52 := rfl
  have s3 : Ieee.double.infRung = 2047 * 2 ^ 52 := by decide
  have s4 : Ieee.double.leastPlace = -1074 := by decide
  simp only [s1, s2, s3, s4]
  have hlt : (L + 1022) * 2 ^ 52 + m < 2 ^ 63 := by omega
  rw [Nat.mod_eq_of_lt hlt, Nat.div_eq_of_lt hlt]
  rw [if_neg (by omega), if_pos (by omega)]
  congr 1
  · omega
  · omega
theorem pow_shift {a b : Nat} (h : a ≤ b) : (2 : Nat) ^ a * 2 ^ (b - a) = 2 ^ b := by rw [← Nat.pow_add]; congr 1; omega
/-- All at once: the number's digits, and how many of them stand behind the point. -/
theorem read_fl {n : Nat} (h1 : n < 2 ^ 53) : ∃ e : Nat, e ≤ 1074 ∧ (0 < n → e ≤ 52 ∧ 2 ^ e ≤ n * 2 ^ e ∧ e ≤ (n * 2 ^ e).log2) ∧ Ieee.double.read (fl n) = Datum.number false (n * 2 ^ e) (-(e : Int)) := by
  rcases Nat.eq_zero_or_pos n with h | h
  · subst h
    obtain ⟨e, he⟩ : ∃ e : Nat, e = 1074 := ⟨_, rfl⟩
    exact ⟨e, by omega, fun h => absurd h (by omega), by rw [fl_zero, read_zero, Nat.zero_mul, he]; rfl⟩
  · refine ⟨52 - n.log2, by omega, fun _ => ⟨by omega, Nat.le_mul_of_pos_left _ h, ?_⟩, read_write h h1⟩
    rw [Nat.le_log2 (by have := Nat.pow_pos (n := 52 - n.log2) (show 0 < 2 by decide); exact Nat.ne_of_gt (Nat.mul_pos h this))]
    exact Nat.le_mul_of_pos_left _ h
theorem order_fl {a b : Nat} (ha : a < 2 ^ 53) (hb : b < 2 ^ 53) : Ieee.double.order (fl a) (fl b) = some (compare a b) := by
  obtain ⟨e1, _, _, r1⟩ := read_fl ha
  obtain ⟨e2, _, _, r2⟩ := read_fl hb
  unfold Format.order
  rw [r1, r2]
  simp only [Datum.order]
  have hk : ∀ (x e m : Nat), e ≤ m → Ieee.signed false (x * 2 ^ e) ((-(e : Int)) - (-(m : Int))).toNat = ((x * 2 ^ m : Nat) : Int) := by
    intro x e m h
    have : ((-(e : Int)) - (-(m : Int))).toNat = m - e := by omega
    rw [this]
    simp only [Ieee.signed]
    simp [Nat.shiftLeft_eq, Nat.mul_assoc, pow_shift h]
  have hb : min (-(e1 : Int)) (-(e2 : Int)) = -((max e1 e2 : Nat) : Int) := by omega
  rw [hb, hk a e1 _ (by omega), hk b e2 _ (by omega)]
  have hp : 0 < 2 ^ (max e1 e2) := Nat.pow_pos (by decide)
  generalize 2 ^ (max e1 e2) = K at *
  congr 1
  rcases Nat.lt_trichotomy a b with h | h | h
  · have h2 : a * K < b * K := Nat.mul_lt_mul_of_pos_right h hp
    have e3 : compare a b = .lt := Nat.compare_eq_lt.2 h
    rw [e3]
    simp only [compare, compareOfLessAndEq]
    rw [if_pos (by omega)]
  · subst h
    simp [compare, compareOfLessAndEq]
  · have h2 : b * K < a * K := Nat.mul_lt_mul_of_pos_right h hp
    have e3 : compare a b = .gt := Nat.compare_eq_gt.2 h
    rw [e3]
    simp only [compare, compareOfLessAndEq]
    rw [if_neg (by omega), if_neg (by omega)]
theorem toInt_fl {n : Nat} (h1 : n < 2 ^ 53) : (Ieee.double.read (fl n)).toInt .zero = some (n : Int) := by
  obtain ⟨e, _, h, r⟩ := read_fl h1
  rw [r]
  unfold Datum.toInt Datum.integral
  simp only
  have : (-(e : Int)).toNat = 0 := by omega
  have h2 : (-(-(e : Int))).toNat = e := by omega
  rw [this, h2]
  have hc : Toward.zero.cut false ((n * 2 ^ e) <<< 0) e = n := by
    simp only [Toward.cut, Nat.shiftLeft_zero]
    rcases Nat.eq_zero_or_pos n with h0 | h0
    · subst h0; simp
    · obtain ⟨_, _, h3⟩ := h h0
      rw [Nat.min_eq_left (by omega)]
      simp [Nat.shiftLeft_eq, Nat.mul_div_cancel _ (Nat.pow_pos (n := e) (show 0 < 2 by decide))]
  rw [hc]
  simp [Ieee.signed]
end Go.Proofs.Ytebdnobgdimdoaa
