/- The reference's functions of chapter 1, each by what it comes to. -/
import Derived.Test.YtebpbogiifaneaaAluLaws
import Derived.Test.YtebpbogiifaneaaAluRefPure
import Derived.LoopTactic
import Derived.Lib.Hide
set_option linter.unusedVariables false
set_option linter.unusedSimpArgs false
namespace Go.Proofs.Ytebpbogiifaneaa
open Go.RowKit

/-- A power of two, closed to the walk. -/
def pow2 (n : Nat) : Nat := 2 ^ n
theorem bitsF_zero (t : Nat → Nat) (a b : Nat) : bitsF t 0 a b = 0 := rfl
theorem tmod_mod (n : Int) : n.tmod 4294967296 % 4294967296 = n % 4294967296 := by
  rw [@Int.tmod_eq_emod n 4294967296]
  split
  · omega
  · simp
set_option maxHeartbeats 400000 in
theorem word_any (n : Int) (w : World) (h0 : -9223372036854775808 ≤ n) (h1 : n ≤ 9223372036854775807) :
    Calls Try.prog 18 #[.int .i64 n] w fun e w' => e = .returned (.int .u32 (n % 4294967296)) ∧ Bel w w' := by
  by_cases hn : 0 ≤ n
  · go_enter Try.func18, Try.ntmps18
    go_wp2
    go_ret
    exact ⟨ret_u32 (by omega), Bel.refl _⟩
  · have hlo : -4294967296 < n.tmod 4294967296 := by
      have := Int.lt_tmod_of_pos n (show (0 : Int) < 4294967296 by decide)
      omega
    by_cases hm : n.tmod 4294967296 < 0
    · go_enter Try.func18, Try.ntmps18
      go_wp2
      go_ret
      refine ⟨ret_u32 ?_, Bel.refl _⟩
      have h5 := tmod_mod n
      omega
    · go_enter Try.func18, Try.ntmps18
      go_wp2
      go_ret
      exact ⟨ret_u32 (tmod_mod n), Bel.refl _⟩

set_option maxHeartbeats 400000 in
theorem times_any (a b : Int) (w : World) (ha : U32 a) (hb : U32 b) :
    Calls Try.prog 19 #[.int .i64 a, .int .i64 b] w fun e w' => e = .returned (.int .i64 (timesI a b)) ∧ Bel w w' := by
  have h1 := ha.lo; have h2 := ha.hi; have h3 := hb.lo; have h4 := hb.hi
  have p1 : a % 65536 * b < 65536 * 4294967296 := by
    have : a % 65536 * b ≤ 65535 * b := Int.mul_le_mul_of_nonneg_right (by omega) h3
    omega
  have p2 : 0 ≤ a % 65536 * b := Int.mul_nonneg (by omega) h3
  have p3 : a / 65536 * b < 65536 * 4294967296 := by
    have : a / 65536 * b ≤ 65535 * b := Int.mul_le_mul_of_nonneg_right (by omega) h3
    omega
  have p4 : 0 ≤ a / 65536 * b := Int.mul_nonneg (by omega) h3
  go_enter Try.func19, Try.ntmps19
  go_wp2
  go_ret
  exact ⟨ret_i64 (by unfold timesI; first | rfl | (trace_state; sorry)), Bel.refl _⟩

set_option maxHeartbeats 400000 in
theorem power_any (n : Nat) (w : World) (hn : n < 4294967296) :
    Calls Try.prog 21 #[.int .i64 n] w fun e w' => e = .returned (.int .i64 (pow2 (n % 32) : Nat)) ∧ Bel w w' := by
  go_enter Try.func21, Try.ntmps21
  go_wp2
  go_loop [3, 4] (fun v i => ∃ k q : Nat, k ≤ n % 32 ∧ i = .int .i64 k ∧ v = .int .i64 q ∧ q ≤ 2147483648 ∧ Hid (q = pow2 k)) (fun _ i => n % 32 - (intOf i).toNat)
  case atStart => exact ⟨0, 1, by omega, rfl, rfl, by omega, by unfold Hid; rfl⟩
  case round =>
    obtain ⟨k, q, hk, rfl, rfl, hq, HQ⟩ := hrel
    by_cases hlt : k < n % 32
    · have h' : (k : Int) < (n : Int) % 32 := by omega
      have hq' : 2 * q ≤ 2147483648 := by
        rw [HQ.out, pow2, Nat.mul_comm, ← Nat.pow_succ]
        exact Nat.pow_le_pow_right (n := 2) (i := k + 1) (j := 31) (by decide) (by omega)
      go_wp2
      go_round
      case rel => exact ⟨k + 1, 2 * q, by omega, by go_num, by go_num, hq', by unfold Hid; rw [pow2, Nat.pow_succ, HQ.out, pow2]; omega⟩
      case measure => simp [intOf]; omega
    · have h' : ¬ (k : Int) < (n : Int) % 32 := by omega
      have e : k = n % 32 := by omega
      have HE : Hid (q = pow2 (n % 32)) := by unfold Hid; rw [← e]; exact HQ.out
      clear e HQ
      go_wp2
      go_ret
      exact ⟨by rw [← HE.out]; rfl, Bel.refl _⟩

theorem bits_step (t : Nat → Nat) (ht : ∀ i, t i ≤ 1) (A B k a' b' o' q : Nat) (hk : k < 32) (H : o' + q * bitsF t (32 - k) a' b' = bitsF t 32 A B) (hq : q = 2 ^ k) :
    o' + q * t (a' % 2 + b' % 2) ≤ 4294967295 ∧ q ≤ 2147483648 ∧ 2 * q = 2 ^ (k + 1) ∧ (o' + q * t (a' % 2 + b' % 2)) + (2 * q) * bitsF t (32 - (k + 1)) (a' / 2) (b' / 2) = bitsF t 32 A B := by
  have h1 := bits_round t k o' q a' b' _ hk H
  have h2 := bitsF_lt t ht 32 A B
  have h3 : 2 ^ k ≤ 2 ^ 31 := Nat.pow_le_pow_right (by decide) (by omega)
  exact ⟨by omega, by omega, by rw [hq, Nat.pow_succ, Nat.mul_comm], h1⟩
theorem t_at (t : Nat → Nat) (w : World) (p a b : Nat) (c0 : w.cell? ⟨p, 0, none⟩ = some (.int .i64 (t 0))) (c1 : w.cell? ⟨p, 1, none⟩ = some (.int .i64 (t 1))) (c2 : w.cell? ⟨p, 2, none⟩ = some (.int .i64 (t 2))) :
    w.cell? ⟨p, a % 2 + b % 2, none⟩ = some (.int .i64 (t (a % 2 + b % 2))) := by
  rcases mod2 a with h | h <;> rcases mod2 b with g | g <;> rw [h, g]
  · exact c0
  · exact c1
  · exact c1
  · exact c2
set_option maxHeartbeats 1000000 in
theorem bits_any (t : Nat → Nat) (ht : Hid (∀ i, t i ≤ 1)) (A B : Nat) (w : World) (p : Nat) (hA : A < 4294967296) (hB : B < 4294967296)
    (c0 : w.cell? ⟨p, 0, none⟩ = some (.int .i64 (t 0))) (c1 : w.cell? ⟨p, 1, none⟩ = some (.int .i64 (t 1))) (c2 : w.cell? ⟨p, 2, none⟩ = some (.int .i64 (t 2))) :
    Calls Try.prog 20 #[.int .i64 A, .int .i64 B, .slice (some ⟨p, 0, none⟩) 3 3] w fun e w' => e = .returned (.int .i64 (bitsF t 32 A B : Nat)) ∧ Bel w w' := by
  go_enter Try.func20, Try.ntmps20
  go_wp2
  go_loop [0, 1, 7, 8, 9] (fun a b out q i => ∃ k a' b' o' q' : Nat, k ≤ 32 ∧ i = .int .i64 k ∧ a = .int .i64 a' ∧ b = .int .i64 b' ∧ out = .int .i64 o' ∧ q = .int .i64 q' ∧ a' < 4294967296 ∧ b' < 4294967296 ∧ Hid (o' + q' * bitsF t (32 - k) a' b' = bitsF t 32 A B) ∧ Hid (q' = 2 ^ k)) (fun _ _ _ _ i => 32 - (intOf i).toNat)
  case atStart => exact ⟨0, A, B, 0, 1, by omega, rfl, rfl, rfl, rfl, rfl, hA, hB, by unfold Hid; rw [Nat.one_mul, Nat.zero_add], by unfold Hid; rfl⟩
  case round =>
    obtain ⟨k, a', b', o', q', hk, rfl, rfl, rfl, rfl, rfl, ha', hb', HH, HQ⟩ := hrel
    by_cases hlt : k < 32
    · obtain ⟨s1, s2, s3, s4⟩ := bits_step t ht.out A B k a' b' o' q' hlt HH.out HQ.out
      have S3 : Hid (2 * q' = 2 ^ (k + 1)) := s3
      have S4 : Hid ((o' + q' * t (a' % 2 + b' % 2)) + (2 * q') * bitsF t (32 - (k + 1)) (a' / 2) (b' / 2) = bitsF t 32 A B) := s4
      have hcell := t_at t w p a' b' c0 c1 c2
      clear c0 c1 c2 s3 s4 HH HQ
      generalize hT : t (a' % 2 + b' % 2) = T at s1 S4 hcell
      clear hT
      have m0 : (0 : Int) ≤ (q' : Int) * (T : Int) := by have e := Int.natCast_mul q' T; omega
      have m1 : (o' : Int) + (q' : Int) * (T : Int) ≤ 4294967295 := by have e := Int.natCast_mul q' T; omega
      go_wp2
      go_round
      case rel => exact ⟨k + 1, a' / 2, b' / 2, o' + q' * T, 2 * q', by omega, by go_num, by go_num, by go_num, by push_cast; rfl, by go_num, by omega, by omega, S4, S3⟩
      case measure => simp [intOf]; omega
    · have e : k = 32 := by omega
      have Hf : Hid (o' = bitsF t 32 A B) := by have := HH.out; subst e; rw [Nat.sub_self, bitsF_zero, Nat.mul_zero, Nat.add_zero] at this; exact this
      clear HH HQ
      go_wp2
      go_ret
      exact ⟨by rw [← Hf.out]; rfl, Bel.refl _⟩

theorem pow2_u32 (n : Nat) : U32 ((pow2 (n % 32) : Nat) : Int) := by
  have : pow2 (n % 32) ≤ 2 ^ 31 := Nat.pow_le_pow_right (by decide) (by omega)
  exact ⟨by omega, by omega⟩
theorem pow2_pos (n : Nat) : (1 : Int) ≤ ((pow2 (n % 32) : Nat) : Int) := by
  have : 0 < pow2 (n % 32) := Nat.pow_pos (by decide)
  omega
theorem pow2_int (n : Nat) : ((pow2 (n % 32) : Nat) : Int) = 2 ^ ((n : Int) % 32).toNat := by
  have e : ((n : Int) % 32).toNat = n % 32 := by omega
  rw [e, pow2]; simp
theorem tand_le (i : Nat) : tAnd i ≤ 1 := by unfold tAnd; split <;> omega
theorem tor_le (i : Nat) : tOr i ≤ 1 := by unfold tOr; split <;> omega
theorem txor_le (i : Nat) : tXor i ≤ 1 := by unfold tXor; split <;> omega
theorem and_told {A B : Nat} (hA : A < 4294967296) (hB : B < 4294967296) : ((bitsF tAnd 32 A B : Nat) : Int) % 4294967296 = aluI 6 A B := by
  rw [aluI_and ⟨by omega, by omega⟩ ⟨by omega, by omega⟩, bitsF_and 32 A B hA hB]
  have := @Nat.and_lt_two_pow A B 32 hB
  simp; omega
theorem or_told {A B : Nat} (hA : A < 4294967296) (hB : B < 4294967296) : ((bitsF tOr 32 A B : Nat) : Int) % 4294967296 = aluI 7 A B := by
  rw [aluI_or ⟨by omega, by omega⟩ ⟨by omega, by omega⟩, bitsF_or 32 A B hA hB]
  have := @Nat.or_lt_two_pow A B 32 hA hB
  simp; omega
theorem xor_told {A B : Nat} (hA : A < 4294967296) (hB : B < 4294967296) : ((bitsF tXor 32 A B : Nat) : Int) % 4294967296 = aluI 8 A B := by
  rw [aluI_xor ⟨by omega, by omega⟩ ⟨by omega, by omega⟩, bitsF_xor 32 A B hA hB]
  have := @Nat.xor_lt_two_pow A B 32 hA hB
  simp; omega

theorem ok_of {op : Int} (h : 0 ≤ op ∧ op < 11) : aluOk op = true := decide_eq_true h

set_option maxHeartbeats 1000000 in
theorem rdo_0 (A B : Nat) (w : World) (hA : A < 4294967296) (hB : B < 4294967296) :
    Calls Try.prog 14 #[.int .i64 0, .int .u32 A, .int .u32 B] w fun e w' => e = .returned (.tuple #[.int .u32 (aluI 0 A B), .bool true]) ∧ Bel w w' := by
  have HB := Bel.refl w
  have ua : U32 (A : Int) := ⟨by omega, by omega⟩
  have ub : U32 (B : Int) := ⟨by omega, by omega⟩
  go_enter Try.func14, Try.ntmps14
  go_wp2
  go_ret2
  exact ⟨by simp [aluI_0], HB⟩

set_option maxHeartbeats 1000000 in
theorem rdo_1 (A B : Nat) (w : World) (hA : A < 4294967296) (hB : B < 4294967296) :
    Calls Try.prog 14 #[.int .i64 1, .int .u32 A, .int .u32 B] w fun e w' => e = .returned (.tuple #[.int .u32 (aluI 1 A B), .bool true]) ∧ Bel w w' := by
  have HB := Bel.refl w
  have ua : U32 (A : Int) := ⟨by omega, by omega⟩
  have ub : U32 (B : Int) := ⟨by omega, by omega⟩
  go_enter Try.func14, Try.ntmps14
  go_wp2_with (first | (go_at_call 18; refine (word_any _ _ (by omega) (by omega)).mono ?_; rintro e w1 ⟨rfl, hb1⟩; have HB := HB.trans hb1; clear hb1))
  go_ret2
  exact ⟨by simp [aluI_1], HB⟩

set_option maxHeartbeats 1000000 in
theorem rdo_2 (A B : Nat) (w : World) (hA : A < 4294967296) (hB : B < 4294967296) :
    Calls Try.prog 14 #[.int .i64 2, .int .u32 A, .int .u32 B] w fun e w' => e = .returned (.tuple #[.int .u32 (aluI 2 A B), .bool true]) ∧ Bel w w' := by
  have HB := Bel.refl w
  have ua : U32 (A : Int) := ⟨by omega, by omega⟩
  have ub : U32 (B : Int) := ⟨by omega, by omega⟩
  go_enter Try.func14, Try.ntmps14
  go_wp2_with (first | (go_at_call 18; refine (word_any _ _ (by omega) (by omega)).mono ?_; rintro e w1 ⟨rfl, hb1⟩; have HB := HB.trans hb1; clear hb1))
  go_ret2
  exact ⟨by simp [aluI_2], HB⟩

set_option maxHeartbeats 1000000 in
theorem rdo_3 (A B : Nat) (w : World) (hA : A < 4294967296) (hB : B < 4294967296) :
    Calls Try.prog 14 #[.int .i64 3, .int .u32 A, .int .u32 B] w fun e w' => e = .returned (.tuple #[.int .u32 (aluI 3 A B), .bool true]) ∧ Bel w w' := by
  have HB := Bel.refl w
  have ua : U32 (A : Int) := ⟨by omega, by omega⟩
  have ub : U32 (B : Int) := ⟨by omega, by omega⟩
  have g1 := timesI_range A B
  obtain ⟨g1a, g1b⟩ := g1
  go_enter Try.func14, Try.ntmps14
  go_wp2_with (first | (go_at_call 19; refine (times_any _ _ _ ua ub).mono ?_; rintro e w1 ⟨rfl, hb1⟩; have HB := HB.trans hb1; clear hb1) | (go_at_call 18; refine (word_any _ _ (by omega) (by omega)).mono ?_; rintro e w1 ⟨rfl, hb1⟩; have HB := HB.trans hb1; clear hb1))
  go_ret2
  exact ⟨by simp [aluI_3, timesI_mod], HB⟩

set_option maxHeartbeats 1000000 in
theorem rdo_4 (A B : Nat) (w : World) (hA : A < 4294967296) (hB : B < 4294967296) :
    Calls Try.prog 14 #[.int .i64 4, .int .u32 A, .int .u32 B] w fun e w' => e = .returned (.tuple #[.int .u32 (aluI 4 A B), .bool true]) ∧ Bel w w' := by
  have HB := Bel.refl w
  have ua : U32 (A : Int) := ⟨by omega, by omega⟩
  have ub : U32 (B : Int) := ⟨by omega, by omega⟩
  by_cases h0 : B = 0
  · subst h0
    go_enter Try.func14, Try.ntmps14
    go_wp2
    go_ret2
    exact ⟨by simp [aluI_4], HB⟩
  · have h0' : ((B : Int) == 0) = false := by simp [h0]
    have h1 : (0 : Int) < B := by omega
    have h2 : ¬ (B : Int) = 0 := by omega
    have g2 := Int.ediv_nonneg (show (0 : Int) ≤ A by omega) (show (0 : Int) ≤ B by omega)
    have g3 := Int.ediv_le_self (B : Int) (show (0 : Int) ≤ A by omega)
    go_enter Try.func14, Try.ntmps14
    go_wp2_with (first | (go_at_call 18; refine (word_any _ _ (by omega) (by omega)).mono ?_; rintro e w1 ⟨rfl, hb1⟩; have HB := HB.trans hb1; clear hb1))
    go_ret2
    exact ⟨by simp [aluI_4, h0]; omega, HB⟩

set_option maxHeartbeats 1000000 in
theorem rdo_5 (A B : Nat) (w : World) (hA : A < 4294967296) (hB : B < 4294967296) :
    Calls Try.prog 14 #[.int .i64 5, .int .u32 A, .int .u32 B] w fun e w' => e = .returned (.tuple #[.int .u32 (aluI 5 A B), .bool true]) ∧ Bel w w' := by
  have HB := Bel.refl w
  have ua : U32 (A : Int) := ⟨by omega, by omega⟩
  have ub : U32 (B : Int) := ⟨by omega, by omega⟩
  by_cases h0 : B = 0
  · subst h0
    go_enter Try.func14, Try.ntmps14
    go_wp2
    go_ret2
    exact ⟨by simp [aluI_5], HB⟩
  · have h0' : ((B : Int) == 0) = false := by simp [h0]
    have h1 : (0 : Int) < B := by omega
    have h2 : ¬ (B : Int) = 0 := by omega
    have g2 := Int.ediv_nonneg (show (0 : Int) ≤ A by omega) (show (0 : Int) ≤ B by omega)
    have g3 := Int.ediv_le_self (B : Int) (show (0 : Int) ≤ A by omega)
    have g4 := Int.mul_ediv_add_emod (A : Int) (B : Int)
    have g5 := Int.emod_nonneg (A : Int) h2
    have g7 : (0 : Int) ≤ (A : Int) / (B : Int) * (B : Int) := Int.mul_nonneg g2 (by omega)
    have g6 : (A : Int) / (B : Int) * (B : Int) ≤ A := by rw [Int.mul_comm]; omega
    have G : Hid ((A : Int) - (A : Int) / (B : Int) * (B : Int) = (A : Int) % (B : Int)) := by unfold Hid; rw [Int.mul_comm]; omega
    clear g4
    go_enter Try.func14, Try.ntmps14
    go_wp2_with (first | (go_at_call 18; refine (word_any _ _ (by omega) (by omega)).mono ?_; rintro e w1 ⟨rfl, hb1⟩; have HB := HB.trans hb1; clear hb1))
    go_ret2
    exact ⟨by rw [aluI_5, if_neg h2, ← G.out]; simp; omega, HB⟩

set_option maxHeartbeats 1000000 in
theorem rdo_6 (A B : Nat) (w : World) (hA : A < 4294967296) (hB : B < 4294967296) :
    Calls Try.prog 14 #[.int .i64 6, .int .u32 A, .int .u32 B] w fun e w' => e = .returned (.tuple #[.int .u32 (aluI 6 A B), .bool true]) ∧ Bel w w' := by
  have HB := Bel.refl w
  have ua : U32 (A : Int) := ⟨by omega, by omega⟩
  have ub : U32 (B : Int) := ⟨by omega, by omega⟩
  have g1 := bitsF_lt tAnd tand_le 32 A B
  go_enter Try.func14, Try.ntmps14
  go_wp2_with (first | (go_at_call 20; refine (bits_any tAnd (Lib.hid tand_le) _ _ _ _ hA hB (by simp [tAnd]) (by simp [tAnd]) (by simp [tAnd])).mono ?_; rintro e w1 ⟨rfl, hb1⟩; have HB := (HB.alloc _).trans hb1; clear hb1) | (go_at_call 18; refine (word_any _ _ (by omega) (by omega)).mono ?_; rintro e w1 ⟨rfl, hb1⟩; have HB := HB.trans hb1; clear hb1))
  go_ret2
  exact ⟨by rw [← and_told hA hB]; rfl, HB⟩

set_option maxHeartbeats 1000000 in
theorem rdo_7 (A B : Nat) (w : World) (hA : A < 4294967296) (hB : B < 4294967296) :
    Calls Try.prog 14 #[.int .i64 7, .int .u32 A, .int .u32 B] w fun e w' => e = .returned (.tuple #[.int .u32 (aluI 7 A B), .bool true]) ∧ Bel w w' := by
  have HB := Bel.refl w
  have ua : U32 (A : Int) := ⟨by omega, by omega⟩
  have ub : U32 (B : Int) := ⟨by omega, by omega⟩
  have g1 := bitsF_lt tOr tor_le 32 A B
  go_enter Try.func14, Try.ntmps14
  go_wp2_with (first | (go_at_call 20; refine (bits_any tOr (Lib.hid tor_le) _ _ _ _ hA hB (by simp [tOr]) (by simp [tOr]) (by simp [tOr])).mono ?_; rintro e w1 ⟨rfl, hb1⟩; have HB := (HB.alloc _).trans hb1; clear hb1) | (go_at_call 18; refine (word_any _ _ (by omega) (by omega)).mono ?_; rintro e w1 ⟨rfl, hb1⟩; have HB := HB.trans hb1; clear hb1))
  go_ret2
  exact ⟨by rw [← or_told hA hB]; rfl, HB⟩

set_option maxHeartbeats 1000000 in
theorem rdo_8 (A B : Nat) (w : World) (hA : A < 4294967296) (hB : B < 4294967296) :
    Calls Try.prog 14 #[.int .i64 8, .int .u32 A, .int .u32 B] w fun e w' => e = .returned (.tuple #[.int .u32 (aluI 8 A B), .bool true]) ∧ Bel w w' := by
  have HB := Bel.refl w
  have ua : U32 (A : Int) := ⟨by omega, by omega⟩
  have ub : U32 (B : Int) := ⟨by omega, by omega⟩
  have g1 := bitsF_lt tXor txor_le 32 A B
  go_enter Try.func14, Try.ntmps14
  go_wp2_with (first | (go_at_call 20; refine (bits_any tXor (Lib.hid txor_le) _ _ _ _ hA hB (by simp [tXor]) (by simp [tXor]) (by simp [tXor])).mono ?_; rintro e w1 ⟨rfl, hb1⟩; have HB := (HB.alloc _).trans hb1; clear hb1) | (go_at_call 18; refine (word_any _ _ (by omega) (by omega)).mono ?_; rintro e w1 ⟨rfl, hb1⟩; have HB := HB.trans hb1; clear hb1))
  go_ret2
  exact ⟨by rw [← xor_told hA hB]; rfl, HB⟩

set_option maxHeartbeats 1000000 in
theorem rdo_9 (A B : Nat) (w : World) (hA : A < 4294967296) (hB : B < 4294967296) :
    Calls Try.prog 14 #[.int .i64 9, .int .u32 A, .int .u32 B] w fun e w' => e = .returned (.tuple #[.int .u32 (aluI 9 A B), .bool true]) ∧ Bel w w' := by
  have HB := Bel.refl w
  have ua : U32 (A : Int) := ⟨by omega, by omega⟩
  have ub : U32 (B : Int) := ⟨by omega, by omega⟩
  obtain ⟨g1a, g1b⟩ := timesI_range A (pow2 (B % 32) : Nat)
  go_enter Try.func14, Try.ntmps14
  go_wp2_with (first | (go_at_call 21; refine (power_any _ _ hB).mono ?_; rintro e w1 ⟨rfl, hb1⟩; have HB := HB.trans hb1; clear hb1) | (go_at_call 19; refine (times_any _ _ _ ua (pow2_u32 B)).mono ?_; rintro e w1 ⟨rfl, hb1⟩; have HB := HB.trans hb1; clear hb1) | (go_at_call 18; refine (word_any _ _ (by omega) (by omega)).mono ?_; rintro e w1 ⟨rfl, hb1⟩; have HB := HB.trans hb1; clear hb1))
  go_ret2
  exact ⟨by rw [aluI_9, ← pow2_int, ← timesI_mod]; rfl, HB⟩

set_option maxHeartbeats 1000000 in
theorem rdo_10 (A B : Nat) (w : World) (hA : A < 4294967296) (hB : B < 4294967296) :
    Calls Try.prog 14 #[.int .i64 10, .int .u32 A, .int .u32 B] w fun e w' => e = .returned (.tuple #[.int .u32 (aluI 10 A B), .bool true]) ∧ Bel w w' := by
  have HB := Bel.refl w
  have ua : U32 (A : Int) := ⟨by omega, by omega⟩
  have ub : U32 (B : Int) := ⟨by omega, by omega⟩
  have g1 := pow2_pos B
  have g2 := Int.ediv_nonneg (show (0 : Int) ≤ A by omega) (show (0 : Int) ≤ (pow2 (B % 32) : Nat) by omega)
  have g3 := Int.ediv_le_self ((pow2 (B % 32) : Nat) : Int) (show (0 : Int) ≤ A by omega)
  go_enter Try.func14, Try.ntmps14
  go_wp2_with (first | (go_at_call 21; refine (power_any _ _ hB).mono ?_; rintro e w1 ⟨rfl, hb1⟩; have HB := HB.trans hb1; clear hb1) | (go_at_call 18; refine (word_any _ _ (by omega) (by omega)).mono ?_; rintro e w1 ⟨rfl, hb1⟩; have HB := HB.trans hb1; clear hb1))
  go_ret2
  exact ⟨by rw [aluI_10, ← pow2_int]; simp; omega, HB⟩

set_option maxHeartbeats 400000 in
theorem rdo_none (op a b : Int) (w : World) (h : op < 0 ∨ 11 ≤ op) :
    Calls Try.prog 14 #[.int .i64 op, .int .u32 a, .int .u32 b] w fun e w' => e = .returned (.tuple #[.int .u32 0, .bool false]) ∧ Bel w w' := by
  have h0 : (op == 0) = false := by simp; omega
  have h1 : (op == 1) = false := by simp; omega
  have h2 : (op == 2) = false := by simp; omega
  have h3 : (op == 3) = false := by simp; omega
  have h4 : (op == 4) = false := by simp; omega
  have h5 : (op == 5) = false := by simp; omega
  have h6 : (op == 6) = false := by simp; omega
  have h7 : (op == 7) = false := by simp; omega
  have h8 : (op == 8) = false := by simp; omega
  have h9 : (op == 9) = false := by simp; omega
  have h10 : (op == 10) = false := by simp; omega
  clear h
  go_enter Try.func14, Try.ntmps14
  go_wp2
  go_ret2
  exact ⟨by simp, Bel.refl _⟩
theorem rdo_any (op a b : Int) (w : World) (ha : U32 a) (hb : U32 b) :
    Calls Try.prog 14 #[.int .i64 op, .int .u32 a, .int .u32 b] w fun e w' => e = .returned (.tuple #[.int .u32 (aluI op a b), .bool (aluOk op)]) ∧ Bel w w' := by
  by_cases hop : 0 ≤ op ∧ op < 11
  · rw [ok_of hop]
    obtain ⟨A, rfl⟩ := Int.eq_ofNat_of_zero_le ha.lo
    obtain ⟨B, rfl⟩ := Int.eq_ofNat_of_zero_le hb.lo
    have hA : A < 4294967296 := by have := ha.hi; omega
    have hB : B < 4294967296 := by have := hb.hi; omega
    obtain rfl | rfl | rfl | rfl | rfl | rfl | rfl | rfl | rfl | rfl | rfl : op = 0 ∨ op = 1 ∨ op = 2 ∨ op = 3 ∨ op = 4 ∨ op = 5 ∨ op = 6 ∨ op = 7 ∨ op = 8 ∨ op = 9 ∨ op = 10 := by omega
    · exact rdo_0 A B w hA hB
    · exact rdo_1 A B w hA hB
    · exact rdo_2 A B w hA hB
    · exact rdo_3 A B w hA hB
    · exact rdo_4 A B w hA hB
    · exact rdo_5 A B w hA hB
    · exact rdo_6 A B w hA hB
    · exact rdo_7 A B w hA hB
    · exact rdo_8 A B w hA hB
    · exact rdo_9 A B w hA hB
    · exact rdo_10 A B w hA hB
  · rw [show aluOk op = false from decide_eq_false hop, aluI_none a b hop]
    exact rdo_none op a b w (by omega)

set_option maxHeartbeats 4000000 in
theorem rholds_any (c a b : Int) (w : World) (ha : U32 a) (hb : U32 b) :
    Calls Try.prog 16 #[.int .i64 c, .int .u32 a, .int .u32 b] w fun e w' => e = .returned (.tuple #[.bool (holdsI c a b), .bool (holdsOk c)]) ∧ Bel w w' := by
  have a1 := ha.lo; have a2 := ha.hi; have b1 := hb.lo; have b2 := hb.hi
  by_cases hc : 0 ≤ c ∧ c < 5
  · rw [show holdsOk c = true from decide_eq_true hc]
    rcases Int.lt_trichotomy a b with h | h | h
    · have t1 : (a - b == 0) = false := by simp; omega
      have t2 : (a - b != 0) = true := by simp; omega
      obtain rfl | rfl | rfl | rfl | rfl : c = 0 ∨ c = 1 ∨ c = 2 ∨ c = 3 ∨ c = 4 := by omega
      all_goals
        go_enter Try.func16, Try.ntmps16
        go_wp2
        go_ret2
        exact ⟨by simp [holdsI] <;> omega, Bel.refl _⟩
    · subst h
      obtain rfl | rfl | rfl | rfl | rfl : c = 0 ∨ c = 1 ∨ c = 2 ∨ c = 3 ∨ c = 4 := by omega
      all_goals
        go_enter Try.func16, Try.ntmps16
        go_wp2
        go_ret2
        exact ⟨by simp [holdsI], Bel.refl _⟩
    · have t1 : (a - b == 0) = false := by simp; omega
      have t2 : (a - b != 0) = true := by simp; omega
      obtain rfl | rfl | rfl | rfl | rfl : c = 0 ∨ c = 1 ∨ c = 2 ∨ c = 3 ∨ c = 4 := by omega
      all_goals
        go_enter Try.func16, Try.ntmps16
        go_wp2
        go_ret2
        exact ⟨by simp [holdsI] <;> omega, Bel.refl _⟩
  · rw [show holdsOk c = false from decide_eq_false hc, holdsI_none a b hc]
    have h : c < 0 ∨ (¬ c < 0 ∧ 4 < c) := by omega
    rcases h with h | ⟨h, h'⟩
    all_goals
      clear hc
      go_enter Try.func16, Try.ntmps16
      go_wp2
      go_ret2
      exact ⟨by simp, Bel.refl _⟩

set_option maxHeartbeats 4000000 in
set_option maxRecDepth 100000 in
theorem AluTells_walk (op a b : Int) (w : World) (wop : (Lit.int .i64 op).wf = true) (wa : (Lit.int .u32 a).wf = true) (wb : (Lit.int .u32 b).wf = true) :
    Calls Try.prog 8 #[.int .i64 op, .int .u32 a, .int .u32 b] w fun e w' => e = .returned (.bool true) ∧ Bel w w' := by
  have ha := u32_of_wf wa
  have hb := u32_of_wf wb
  clear wop wa wb
  have HB := Bel.refl w
  go_enter Try.func8, Try.ntmps8
  go_wp2_with (first | (go_at_call 11; refine (awake_any _).mono ?_; rintro e w1 ⟨rfl, hb1⟩; have HB := HB.trans hb1; clear hb1) | (go_at_call 13; refine (do_any _ _ _ _ ha hb).mono ?_; rintro e w1 ⟨rfl, hb1⟩; have HB := HB.trans hb1; clear hb1) | (go_at_call 14 ; refine (rdo_any _ _ _ _ ha hb).mono ?_; rintro e w1 ⟨rfl, hb1⟩; have HB := HB.trans hb1; clear hb1) | (go_at_call 15; refine (holds_any _ _ _ _).mono ?_; rintro e w1 ⟨rfl, hb1⟩; have HB := HB.trans hb1; clear hb1) | (go_at_call 16; refine (rholds_any _ _ _ _ ha hb).mono ?_; rintro e w1 ⟨rfl, hb1⟩; have HB := HB.trans hb1; clear hb1))
  go_ret
  exact ⟨by simp, HB⟩
end Go.Proofs.Ytebpbogiifaneaa
