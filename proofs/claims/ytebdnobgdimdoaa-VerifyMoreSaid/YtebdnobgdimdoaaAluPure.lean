/- What is done with two words (chapter 1), as plain functions of whole numbers, and what holds of them. Nothing of the program. -/
import Derived.Test.YtebdnobgdimdoaaKit
import Derived.Laws.BitsAllLaws
set_option linter.unusedVariables false
set_option linter.unusedSimpArgs false
set_option linter.unusedSectionVars false
namespace Go.Proofs.Ytebdnobgdimdoaa
open Go.RowKit

/-- What is done with two words. -/
def aluI (op a b : Int) : Int :=
  if op = 0 then b else if op = 1 then (a + b) % 4294967296 else if op = 2 then (a - b) % 4294967296 else if op = 3 then (a * b) % 4294967296
  else if op = 4 then (if b = 0 then 0 else a / b) else if op = 5 then (if b = 0 then a else a % b)
  else if op = 6 then bits .and .u32 a b else if op = 7 then bits .or .u32 a b else if op = 8 then bits .xor .u32 a b
  else if op = 9 then a * 2 ^ (b % 32).toNat % 4294967296 else if op = 10 then a / 2 ^ (b % 32).toNat else 0
def aluOk (op : Int) : Bool := decide (0 ≤ op ∧ op < 11)
/-- How two words stand. -/
def holdsI (c a b : Int) : Bool :=
  if c = 0 then true else if c = 1 then decide (a = b) else if c = 2 then decide (a ≠ b) else if c = 3 then decide (a < b) else if c = 4 then decide (b ≤ a) else false
def holdsOk (c : Int) : Bool := decide (0 ≤ c ∧ c < 5)

theorem mulmod_r (x y n : Int) : x * (y % n) % n = x * y % n := by rw [Int.mul_emod, Int.emod_emod, ← Int.mul_emod]
theorem mulmod_l (x y n : Int) : (x % n) * y % n = x * y % n := by rw [Int.mul_emod, Int.emod_emod, ← Int.mul_emod]
theorem aluI_0 (a b : Int) : aluI 0 a b = b := by simp [aluI]
theorem aluI_1 (a b : Int) : aluI 1 a b = (a + b) % 4294967296 := by simp [aluI]
theorem aluI_2 (a b : Int) : aluI 2 a b = (a - b) % 4294967296 := by simp [aluI]
theorem aluI_3 (a b : Int) : aluI 3 a b = (a * b) % 4294967296 := by simp [aluI]
theorem aluI_4 (a b : Int) : aluI 4 a b = if b = 0 then 0 else a / b := by simp [aluI]
theorem aluI_5 (a b : Int) : aluI 5 a b = if b = 0 then a else a % b := by simp [aluI]
theorem aluI_6 (a b : Int) : aluI 6 a b = bits .and .u32 a b := by simp [aluI]
theorem aluI_7 (a b : Int) : aluI 7 a b = bits .or .u32 a b := by simp [aluI]
theorem aluI_8 (a b : Int) : aluI 8 a b = bits .xor .u32 a b := by simp [aluI]
theorem aluI_9 (a b : Int) : aluI 9 a b = a * 2 ^ (b % 32).toNat % 4294967296 := by simp [aluI]
theorem aluI_10 (a b : Int) : aluI 10 a b = a / 2 ^ (b % 32).toNat := by simp [aluI]
theorem aluI_and {a b : Int} (ha : U32 a) (hb : U32 b) : aluI 6 a b = ((a.toNat &&& b.toNat : Nat) : Int) := by rw [aluI_6, u32_and a b ha.lo ha.hi hb.lo hb.hi]
theorem aluI_or {a b : Int} (ha : U32 a) (hb : U32 b) : aluI 7 a b = ((a.toNat ||| b.toNat : Nat) : Int) := by rw [aluI_7, u32_or a b ha.lo ha.hi hb.lo hb.hi]
theorem aluI_xor {a b : Int} (ha : U32 a) (hb : U32 b) : aluI 8 a b = ((a.toNat ^^^ b.toNat : Nat) : Int) := by rw [aluI_8, u32_xor a b ha.lo ha.hi hb.lo hb.hi]

theorem toNat_lt {a : Int} (ha : U32 a) : a.toNat < 2 ^ 32 := by have := ha.lo; have := ha.hi; omega

theorem aluI_u32 (op : Int) {a b : Int} (ha : U32 a) (hb : U32 b) : U32 (aluI op a b) := by
  have h1 := ha.lo; have h2 := ha.hi; have h3 := hb.lo; have h4 := hb.hi
  by_cases hop : 0 ≤ op ∧ op < 11
  · obtain rfl | rfl | rfl | rfl | rfl | rfl | rfl | rfl | rfl | rfl | rfl : op = 0 ∨ op = 1 ∨ op = 2 ∨ op = 3 ∨ op = 4 ∨ op = 5 ∨ op = 6 ∨ op = 7 ∨ op = 8 ∨ op = 9 ∨ op = 10 := by omega
    · rw [aluI_0]; exact hb
    · rw [aluI_1]; exact ⟨by omega, by omega⟩
    · rw [aluI_2]; exact ⟨by omega, by omega⟩
    · rw [aluI_3]; exact ⟨by omega, by omega⟩
    · rw [aluI_4]
      split
      · exact ⟨by omega, by omega⟩
      · have := Int.ediv_nonneg h1 h3
        have := Int.ediv_le_self b h1
        exact ⟨by omega, by omega⟩
    · rw [aluI_5]
      split
      · exact ha
      · have := Int.emod_nonneg a (show b ≠ 0 by omega)
        have := Int.emod_lt_of_pos a (show 0 < b by omega)
        exact ⟨by omega, by omega⟩
    · rw [aluI_and ha hb]
      have := @Nat.and_lt_two_pow a.toNat b.toNat 32 (toNat_lt hb)
      exact ⟨by omega, by omega⟩
    · rw [aluI_or ha hb]
      have := @Nat.or_lt_two_pow a.toNat b.toNat 32 (toNat_lt ha) (toNat_lt hb)
      exact ⟨by omega, by omega⟩
    · rw [aluI_xor ha hb]
      have := @Nat.xor_lt_two_pow a.toNat b.toNat 32 (toNat_lt ha) (toNat_lt hb)
      exact ⟨by omega, by omega⟩
    · rw [aluI_9]; exact ⟨by omega, by omega⟩
    · rw [aluI_10]
      have hp : (0 : Int) < 2 ^ (b % 32).toNat := Int.pow_pos (by decide)
      have := Int.ediv_nonneg h1 (Int.le_of_lt hp)
      have := Int.ediv_le_self (2 ^ (b % 32).toNat) h1
      exact ⟨by omega, by omega⟩
  · have : aluI op a b = 0 := by unfold aluI; repeat (first | rw [if_neg (by omega)] | rfl)
    rw [this]; exact ⟨by omega, by omega⟩

theorem aluI_none {op : Int} (a b : Int) (h : ¬ (0 ≤ op ∧ op < 11)) : aluI op a b = 0 := by unfold aluI; repeat (first | rw [if_neg (by omega)] | rfl)
theorem holdsI_none {c : Int} (a b : Int) (h : ¬ (0 ≤ c ∧ c < 5)) : holdsI c a b = false := by unfold holdsI; repeat (first | rw [if_neg (by omega)] | rfl)
/-! ### The laws of chapter 1, over plain numbers -/
section
variable {a b c : Int} (ha : U32 a) (hb : U32 b) (hc : U32 c)
include ha
theorem xor_self : aluI 8 a a = 0 := by rw [aluI_xor ha ha, Nat.xor_self]; rfl
theorem and_self : aluI 6 a a = a := by rw [aluI_and ha ha, Nat.and_self]; have := ha.lo; omega
theorem or_zero : aluI 7 a 0 = a := by rw [aluI_or ha (u32_lit 0 (by decide)), show (0 : Int).toNat = 0 from rfl, Nat.or_zero]; have := ha.lo; omega
theorem xor_ones : aluI 8 a 4294967295 = 4294967295 - a := by
  rw [aluI_xor ha (u32_lit 4294967295 (by decide))]
  have h : (a.toNat ^^^ (4294967295 : Int).toNat) = 4294967295 - a.toNat := by
    apply Nat.eq_of_testBit_eq
    intro i
    have h1 : (4294967295 : Int).toNat = 2 ^ 32 - 1 := by decide
    have h2 : 4294967295 - a.toNat = 2 ^ 32 - (a.toNat + 1) := by omega
    rw [h1, h2, Nat.testBit_xor, Nat.testBit_two_pow_sub_one, Nat.testBit_two_pow_sub_succ (toNat_lt ha)]
    by_cases hi : i < 32
    · simp [hi]
    · have : a.toNat.testBit i = false := Nat.testBit_lt_two_pow (Nat.lt_of_lt_of_le (toNat_lt ha) (Nat.pow_le_pow_right (by decide) (by omega)))
      simp [hi, this]
  rw [h]; have := ha.lo; have := ha.hi; omega
include hb
theorem add_sub : aluI 2 (aluI 1 a b) b = a := by rw [aluI_2, aluI_1]; have := ha.lo; have := ha.hi; omega
theorem xor_xor : aluI 8 (aluI 8 a b) b = a := by
  rw [aluI_xor (aluI_u32 8 ha hb) hb, aluI_xor ha hb, Int.toNat_natCast, Nat.xor_assoc, Nat.xor_self, Nat.xor_zero]; have := ha.lo; omega
theorem div_mod : aluI 1 (aluI 3 (aluI 4 a b) b) (aluI 5 a b) = a := by
  have h1 := ha.lo; have h2 := ha.hi; have h3 := hb.lo
  rw [aluI_1, aluI_3, aluI_4, aluI_5]
  split
  · simp; omega
  · have e := Int.mul_ediv_add_emod a b
    have := Int.emod_nonneg a (show b ≠ 0 by omega)
    have h5 : 0 ≤ b * (a / b) := Int.mul_nonneg h3 (Int.ediv_nonneg h1 h3)
    rw [Int.mul_comm (a / b) b, Int.emod_eq_of_lt h5 (by omega)]
    rw [e]; omega
theorem and_or : aluI 1 (aluI 6 a b) (aluI 7 a b) = aluI 1 a b := by
  rw [aluI_1, aluI_1, aluI_and ha hb, aluI_or ha hb]
  have key : ∀ x y : Nat, (x &&& y) + (x ||| y) = x + y := by
    intro x
    induction x using Nat.strongRecOn with
    | _ x ih =>
      intro y
      rcases Nat.eq_zero_or_pos x with h | h
      · subst h; simp
      · have := ih (x / 2) (by omega) (y / 2)
        have e1 := Nat.div_add_mod (x &&& y) 2
        have e2 := Nat.div_add_mod (x ||| y) 2
        rw [Nat.and_div_two] at e1
        rw [Nat.or_div_two] at e2
        have m1 : (x &&& y) % 2 = (x % 2) * (y % 2) := by
          have h := Nat.and_mod_two_pow (a := x) (b := y) (n := 1)
          rw [Nat.pow_one] at h
          rw [h]
          rcases Nat.mod_two_eq_zero_or_one x with p | p <;> rcases Nat.mod_two_eq_zero_or_one y with q | q <;> simp [p, q]
        have m2 : (x ||| y) % 2 = (x % 2) + (y % 2) - (x % 2) * (y % 2) := by
          have h := Nat.or_mod_two_pow (a := x) (b := y) (n := 1)
          rw [Nat.pow_one] at h
          rw [h]
          rcases Nat.mod_two_eq_zero_or_one x with p | p <;> rcases Nat.mod_two_eq_zero_or_one y with q | q <;> simp [p, q]
        rcases Nat.mod_two_eq_zero_or_one x with p | p <;> rcases Nat.mod_two_eq_zero_or_one y with q | q <;> simp only [p, q] at m1 m2 <;> omega
  have := key a.toNat b.toNat
  have := ha.lo; have := hb.lo
  congr 1
  omega
theorem comm_all (op : Int) (h : op = 1 ∨ op = 3 ∨ op = 6 ∨ op = 7 ∨ op = 8) : aluI op a b = aluI op b a := by
  rcases h with rfl | rfl | rfl | rfl | rfl
  · rw [aluI_1, aluI_1, Int.add_comm]
  · rw [aluI_3, aluI_3, Int.mul_comm]
  · rw [aluI_and ha hb, aluI_and hb ha, Nat.and_comm]
  · rw [aluI_or ha hb, aluI_or hb ha, Nat.or_comm]
  · rw [aluI_xor ha hb, aluI_xor hb ha, Nat.xor_comm]
theorem div_le : aluI 4 a b ≤ a := by
  rw [aluI_4]; split
  · exact ha.lo
  · exact Int.ediv_le_self b ha.lo
theorem and_le : aluI 6 a b ≤ a ∧ aluI 6 a b ≤ b := by
  rw [aluI_and ha hb]
  have h1 := @Nat.and_le_left a.toNat b.toNat
  have h2 := @Nat.and_le_right a.toNat b.toNat
  have := ha.lo; have := hb.lo
  exact ⟨by omega, by omega⟩
theorem or_ge : a ≤ aluI 7 a b ∧ b ≤ aluI 7 a b := by
  rw [aluI_or ha hb]
  have h1 := @Nat.left_le_or a.toNat b.toNat
  have h2 := @Nat.right_le_or a.toNat b.toNat
  have := ha.lo; have := hb.lo
  exact ⟨by omega, by omega⟩
theorem shr_le : aluI 10 a b ≤ a := by rw [aluI_10]; exact Int.ediv_le_self _ ha.lo
theorem mod_lt (h : b ≠ 0) : aluI 5 a b < b := by
  rw [aluI_5, if_neg h]; exact Int.emod_lt_of_pos a (by have := hb.lo; omega)
theorem mod_le : aluI 5 a b ≤ a := by
  rw [aluI_5]; split
  · exact Int.le_refl _
  · have h3 := hb.lo
    have h5 : 0 ≤ b * (a / b) := Int.mul_nonneg h3 (Int.ediv_nonneg ha.lo h3)
    have := Int.mul_ediv_add_emod a b
    omega
theorem shl_mul : aluI 9 a b = aluI 3 a (aluI 9 1 b) := by
  rw [aluI_9, aluI_3, aluI_9, Int.one_mul, mulmod_r]
omit ha in
theorem pow_lt : (2 : Int) ^ (b % 32).toNat < 4294967296 := by
  have h : (b % 32).toNat ≤ 31 := by omega
  have : (2 : Nat) ^ (b % 32).toNat ≤ 2 ^ 31 := Nat.pow_le_pow_right (by decide) h
  have e : ((2 ^ (b % 32).toNat : Nat) : Int) = (2 : Int) ^ (b % 32).toNat := by simp
  omega
omit ha in
theorem shl_one : aluI 9 1 b = 2 ^ (b % 32).toNat := by
  rw [aluI_9, Int.one_mul]
  exact Int.emod_eq_of_lt (Int.le_of_lt (Int.pow_pos (by decide))) (pow_lt hb)
theorem shr_div : aluI 10 a b = aluI 4 a (aluI 9 1 b) := by
  have hp : (0 : Int) < 2 ^ (b % 32).toNat := Int.pow_pos (by decide)
  rw [shl_one hb, aluI_10, aluI_4, if_neg (by omega)]
include hc
theorem assoc_all (op : Int) (h : op = 1 ∨ op = 3 ∨ op = 6 ∨ op = 7 ∨ op = 8) : aluI op (aluI op a b) c = aluI op a (aluI op b c) := by
  rcases h with rfl | rfl | rfl | rfl | rfl
  · simp only [aluI_1]; omega
  · simp only [aluI_3]; rw [mulmod_l, mulmod_r, Int.mul_assoc]
  · rw [aluI_and (aluI_u32 6 ha hb) hc, aluI_and ha (aluI_u32 6 hb hc), aluI_and ha hb, aluI_and hb hc, Int.toNat_natCast, Int.toNat_natCast, Nat.and_assoc]
  · rw [aluI_or (aluI_u32 7 ha hb) hc, aluI_or ha (aluI_u32 7 hb hc), aluI_or ha hb, aluI_or hb hc, Int.toNat_natCast, Int.toNat_natCast, Nat.or_assoc]
  · rw [aluI_xor (aluI_u32 8 ha hb) hc, aluI_xor ha (aluI_u32 8 hb hc), aluI_xor ha hb, aluI_xor hb hc, Int.toNat_natCast, Int.toNat_natCast, Nat.xor_assoc]
theorem distrib : aluI 3 a (aluI 1 b c) = aluI 1 (aluI 3 a b) (aluI 3 a c) := by
  simp only [aluI_3, aluI_1]
  rw [mulmod_r, Int.mul_add, ← Int.add_emod]
end
theorem shl_more (a n : Int) (h : 0 ≤ n) : aluI 9 a (n + 32) = aluI 9 a n := by
  rw [aluI_9, aluI_9, show (n + 32) % 32 = n % 32 from by omega]
end Go.Proofs.Ytebdnobgdimdoaa
