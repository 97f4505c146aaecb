/- The reference's bit by bit answer (chapter 1) is what the words' own operations say. Plain numbers. -/
import Derived.Test.YtebpbogiifaneaaAluPure
set_option linter.unusedVariables false
set_option linter.unusedSimpArgs false
namespace Go.Proofs.Ytebpbogiifaneaa

/-- Bit by bit: of each pair of bits what 't' says of how many are set. -/
def bitsF (t : Nat → Nat) : Nat → Nat → Nat → Nat
  | 0, _, _ => 0
  | n + 1, a, b => t (a % 2 + b % 2) + 2 * bitsF t n (a / 2) (b / 2)
theorem bitsF_lt (t : Nat → Nat) (ht : ∀ i, t i ≤ 1) : ∀ n a b, bitsF t n a b < 2 ^ n := by
  intro n
  induction n with
  | zero => intro a b; simp [bitsF]
  | succ n ih => intro a b; have h1 := ih (a / 2) (b / 2); have h2 := ht (a % 2 + b % 2); simp only [bitsF, Nat.pow_succ]; omega
theorem mod2 (x : Nat) : x % 2 = 0 ∨ x % 2 = 1 := by omega
def tAnd : Nat → Nat := fun i => if i = 2 then 1 else 0
def tOr : Nat → Nat := fun i => if i = 0 then 0 else 1
def tXor : Nat → Nat := fun i => if i = 1 then 1 else 0
theorem bitsF_and : ∀ n a b, a < 2 ^ n → b < 2 ^ n → bitsF tAnd n a b = a &&& b := by
  intro n
  induction n with
  | zero => intro a b ha hb; have e1 : a = 0 := by simpa using ha
            have e2 : b = 0 := by simpa using hb
            subst e1; subst e2; rfl
  | succ n ih =>
    intro a b ha hb
    rw [Nat.pow_succ] at ha hb
    have h := ih (a / 2) (b / 2) (by omega) (by omega)
    rw [← Nat.and_div_two] at h
    simp only [bitsF, h]
    have e := Nat.div_add_mod (a &&& b) 2
    have m := Nat.and_mod_two_pow (a := a) (b := b) (n := 1)
    rw [Nat.pow_one] at m
    rcases mod2 a with p | p <;> rcases mod2 b with q | q <;> simp only [p, q, show (0 &&& 0 : Nat) = 0 from rfl, show (0 &&& 1 : Nat) = 0 from rfl, show (1 &&& 0 : Nat) = 0 from rfl, show (1 &&& 1 : Nat) = 1 from rfl, show tAnd (0 + 0) = 0 from rfl, show tAnd (0 + 1) = 0 from rfl, show tAnd (1 + 0) = 0 from rfl, show tAnd (1 + 1) = 1 from rfl] at m ⊢ <;> omega
theorem bitsF_or : ∀ n a b, a < 2 ^ n → b < 2 ^ n → bitsF tOr n a b = a ||| b := by
  intro n
  induction n with
  | zero => intro a b ha hb; have e1 : a = 0 := by simpa using ha
            have e2 : b = 0 := by simpa using hb
            subst e1; subst e2; rfl
  | succ n ih =>
    intro a b ha hb
    rw [Nat.pow_succ] at ha hb
    have h := ih (a / 2) (b / 2) (by omega) (by omega)
    rw [← Nat.or_div_two] at h
    simp only [bitsF, h]
    have e := Nat.div_add_mod (a ||| b) 2
    have m := Nat.or_mod_two_pow (a := a) (b := b) (n := 1)
    rw [Nat.pow_one] at m
    rcases mod2 a with p | p <;> rcases mod2 b with q | q <;> simp only [p, q, show (0 ||| 0 : Nat) = 0 from rfl, show (0 ||| 1 : Nat) = 1 from rfl, show (1 ||| 0 : Nat) = 1 from rfl, show (1 ||| 1 : Nat) = 1 from rfl, show tOr (0 + 0) = 0 from rfl, show tOr (0 + 1) = 1 from rfl, show tOr (1 + 0) = 1 from rfl, show tOr (1 + 1) = 1 from rfl] at m ⊢ <;> omega
theorem bitsF_xor : ∀ n a b, a < 2 ^ n → b < 2 ^ n → bitsF tXor n a b = a ^^^ b := by
  intro n
  induction n with
  | zero => intro a b ha hb; have e1 : a = 0 := by simpa using ha
            have e2 : b = 0 := by simpa using hb
            subst e1; subst e2; rfl
  | succ n ih =>
    intro a b ha hb
    rw [Nat.pow_succ] at ha hb
    have h := ih (a / 2) (b / 2) (by omega) (by omega)
    rw [← Nat.xor_div_two] at h
    simp only [bitsF, h]
    have e := Nat.div_add_mod (a ^^^ b) 2
    have m := Nat.xor_mod_two_pow (a := a) (b := b) (n := 1)
    rw [Nat.pow_one] at m
    rcases mod2 a with p | p <;> rcases mod2 b with q | q <;> simp only [p, q, show (0 ^^^ 0 : Nat) = 0 from rfl, show (0 ^^^ 1 : Nat) = 1 from rfl, show (1 ^^^ 0 : Nat) = 1 from rfl, show (1 ^^^ 1 : Nat) = 0 from rfl, show tXor (0 + 0) = 0 from rfl, show tXor (0 + 1) = 1 from rfl, show tXor (1 + 0) = 1 from rfl, show tXor (1 + 1) = 0 from rfl] at m ⊢ <;> omega

/-- One round of the loop over the bits: what is told so far, and what is still to be told. -/
theorem bits_round (t : Nat → Nat) (k out p a b full : Nat) (hk : k < 32) (h : out + p * bitsF t (32 - k) a b = full) :
    (out + p * t (a % 2 + b % 2)) + (2 * p) * bitsF t (32 - (k + 1)) (a / 2) (b / 2) = full := by
  have e : 32 - k = (32 - (k + 1)) + 1 := by omega
  rw [e, bitsF, Nat.mul_add, ← Nat.mul_assoc] at h
  rw [Nat.mul_comm 2 p]
  omega

/-- The reference's product. -/
def timesI (a b : Int) : Int := a % 65536 * b % 4294967296 + a / 65536 * b % 65536 * 65536
theorem timesI_mod (a b : Int) : timesI a b % 4294967296 = a * b % 4294967296 := by
  unfold timesI
  have e : a * b = (a % 65536) * b + (a / 65536 * b) * 65536 := by
    have h : a = a / 65536 * 65536 + a % 65536 := by omega
    calc a * b = (a / 65536 * 65536 + a % 65536) * b := by rw [← h]
      _ = (a % 65536) * b + (a / 65536 * b) * 65536 := by rw [Int.add_mul, Int.add_comm, Int.mul_assoc, Int.mul_comm 65536 b, ← Int.mul_assoc]
  rw [e]
  generalize a % 65536 * b = x
  generalize a / 65536 * b = y
  omega
theorem timesI_range (a b : Int) : 0 ≤ timesI a b ∧ timesI a b < 8589934592 := by
  unfold timesI
  generalize a % 65536 * b = x
  generalize a / 65536 * b = y
  omega
end Go.Proofs.Ytebpbogiifaneaa
