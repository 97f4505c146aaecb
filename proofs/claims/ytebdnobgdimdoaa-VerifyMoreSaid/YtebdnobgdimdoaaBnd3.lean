/- bounds: Ends, Has, Join, fit, power. -/
import Derived.Test.YtebdnobgdimdoaaBnd2
import Derived.LoopTactic
set_option linter.unusedVariables false
set_option linter.unusedSimpArgs false
namespace Go.Proofs.Ytebdnobgdimdoaa
open Go.RowKit

def nmax (a b : Nat) : Nat := max a b
def nmin (a b : Nat) : Nat := min a b
theorem max2_nat (k k' : IntKind) (a b : Nat) : Builtin.max2 (.int k a) (.int k' b) = pure (.int k (nmax a b : Nat)) := by
  simp only [Builtin.max2, nmax, gt_iff_lt]
  split
  · rw [Nat.max_eq_right (by omega)]
  · rw [Nat.max_eq_left (by omega)]
theorem min2_nat (k k' : IntKind) (a b : Nat) : Builtin.min2 (.int k a) (.int k' b) = pure (.int k (nmin a b : Nat)) := by
  simp only [Builtin.min2, nmin]
  split
  · rw [Nat.min_eq_right (by omega)]
  · rw [Nat.min_eq_left (by omega)]
theorem bmax_two (ats : Array TypeId) (ty : TypeId) (a b : Value) : Builtin.max_ ats ty #[a, b] = (Builtin.max2 a b >>= fun s => pure s) := by simp only [Builtin.max_, List.foldlM_cons, List.foldlM_nil]
theorem bmin_two (ats : Array TypeId) (ty : TypeId) (a b : Value) : Builtin.min_ ats ty #[a, b] = (Builtin.min2 a b >>= fun s => pure s) := by simp only [Builtin.min_, List.foldlM_cons, List.foldlM_nil]
attribute [local go_sem] max2_nat min2_nat bmax_two bmin_two

set_option maxHeartbeats 400000 in
theorem ends_any (l h : Nat) (w : World) (hl : l ≤ h) (hh : h < 4294967296) :
    Calls Try.prog 75 #[.complex .f64 (fl l) (fl h)] w fun e w' => e = .returned (.tuple #[.int .u32 l, .int .u32 h, .bool true]) ∧ Bel w w' := by
  have HB := Bel.refl w
  have b1 : (l : Int) < 4294967296 := by omega
  have b2 : (h : Int) < 4294967296 := by omega
  go_enter Try.func75, Try.ntmps75
  go_wp2_with (first | (go_at_call 91; refine (bmay_any _ _ _ hl hh).mono ?_; rintro e w1 ⟨rfl, rfl⟩) | (go_at_call 93; refine (of_any _ _ _ hl hh).mono ?_; rintro e w1 ⟨rfl, rfl⟩))
  go_quiet (fail)
  go_wp2
  go_ret3
  exact ⟨by simp, by repeat (first | exact HB | apply Bel.drewN | apply Bel.alloc)⟩
set_option maxHeartbeats 1000000 in
theorem join_any (l1 h1 l2 h2 : Nat) (w : World) (hl1 : l1 ≤ h1) (hh1 : h1 < 4294967296) (hl2 : l2 ≤ h2) (hh2 : h2 < 4294967296) :
    Calls Try.prog 63 #[.complex .f64 (fl l1) (fl h1), .complex .f64 (fl l2) (fl h2)] w fun e w' => e = .returned (.complex .f64 (fl (nmin l1 l2)) (fl (nmax h1 h2))) ∧ Bel w w' := by
  have HB := Bel.refl w
  go_enter Try.func63, Try.ntmps63
  go_wp2_with fail
  refine (of_any l1 h1 _ hl1 hh1).mono ?_
  rintro e w1 ⟨rfl, rfl⟩
  go_wp2_with fail
  refine (of_any l2 h2 _ hl2 hh2).mono ?_
  rintro e w1 ⟨rfl, rfl⟩
  go_wp2_with fail
  refine (told_any _ _ _).mono ?_
  rintro e w1 ⟨rfl, hb1⟩
  go_wp2
  go_ret
  exact ⟨by simp, Bel.trans (by repeat (first | exact HB | apply Bel.alloc)) hb1⟩
/-- Bounds that fit, or all. -/
def fitS (lo hi : Nat) : Nat × Nat := if 4294967295 < hi ∨ hi < lo then (0, 4294967295) else (lo, hi)
set_option maxHeartbeats 400000 in
theorem fit_any (lo hi : Nat) (w : World) (h1 : lo ≤ 18446744073709551615) (h2 : hi ≤ 18446744073709551615) :
    Calls Try.prog 96 #[.int .u64 lo, .int .u64 hi] w fun e w' => e = .returned (.agg #[.int .u64 (fitS lo hi).1, .int .u64 (fitS lo hi).2]) ∧ Bel w w' := by
  clear h1 h2
  by_cases c1 : 4294967295 < hi
  · have c1' : (4294967295 : Int) < (hi : Int) := by omega
    have e : fitS lo hi = (0, 4294967295) := if_pos (Or.inl c1)
    rw [e]
    clear e c1
    go_enter Try.func96, Try.ntmps96
    go_wp2
    refine bodyPost_ret (v := .agg #[.int .u64 0, .int .u64 4294967295]) ?_ rfl ⟨rfl, (Bel.refl _).alloc _⟩
    simp [results, Try.results96, go_sem]
  · have c1' : ¬ (4294967295 : Int) < (hi : Int) := by omega
    by_cases c2 : hi < lo
    · have c2' : (hi : Int) < (lo : Int) := by omega
      have e : fitS lo hi = (0, 4294967295) := if_pos (Or.inr c2)
      rw [e]
      clear e c1 c2
      go_enter Try.func96, Try.ntmps96
      go_wp2
      refine bodyPost_ret (v := .agg #[.int .u64 0, .int .u64 4294967295]) ?_ rfl ⟨rfl, (Bel.refl _).alloc _⟩
      simp [results, Try.results96, go_sem]
    · have c2' : ¬ (hi : Int) < (lo : Int) := by omega
      have e : fitS lo hi = (lo, hi) := if_neg (by omega)
      rw [e]
      clear e c1 c2
      go_enter Try.func96, Try.ntmps96
      go_wp2
      refine bodyPost_ret (v := .agg #[.int .u64 lo, .int .u64 hi]) ?_ rfl ⟨rfl, (Bel.refl _).alloc _⟩
      simp [results, Try.results96, go_sem]
/-- The least power of two above two numbers. -/
def powS (a b : Nat) : Nat := if max a b = 0 then 1 else 2 ^ ((max a b).log2 + 1)
theorem powS_gt (a b : Nat) : a < powS a b ∧ b < powS a b := by
  unfold powS
  split
  · omega
  · have := Nat.lt_log2_self (n := max a b)
    omega
theorem powS_le {a b : Nat} (ha : a < 4294967296) (hb : b < 4294967296) : powS a b ≤ 4294967296 := by
  unfold powS
  split
  · omega
  · have : (max a b).log2 < 32 := (Nat.log2_lt (by omega)).2 (by omega)
    exact Nat.pow_le_pow_right (n := 2) (j := 32) (by decide) (by omega)
theorem powS_pow (a b : Nat) : ∃ k, powS a b = 2 ^ k := by
  unfold powS
  split
  · exact ⟨0, rfl⟩
  · exact ⟨_, rfl⟩
/-- A power of two that isn't above both is less than what is told. -/
theorem powS_step {a b k : Nat} (h : 2 ^ k ≤ a ∨ 2 ^ k ≤ b) : 2 ^ (k + 1) ≤ powS a b := by
  unfold powS
  have h1 : 2 ^ k ≤ max a b := by omega
  have h0 : 0 < 2 ^ k := Nat.pow_pos (by decide)
  rw [if_neg (by omega)]
  apply Nat.pow_le_pow_right (by decide)
  have : k ≤ (max a b).log2 := (Nat.le_log2 (by omega)).2 h1
  omega
theorem powS_end {a b k : Nat} (h : 2 ^ k ≤ powS a b) (h1 : a < 2 ^ k) (h2 : b < 2 ^ k) : 2 ^ k = powS a b := by
  apply Nat.le_antisymm h
  unfold powS
  split
  · exact Nat.one_le_two_pow
  · rename_i hz
    apply Nat.pow_le_pow_right (by decide)
    have : (max a b).log2 < k := (Nat.log2_lt hz).2 (by omega)
    omega
theorem powS_one (a b : Nat) : 1 ≤ powS a b := by have := powS_gt a b; omega
set_option maxHeartbeats 1000000 in
theorem power_loop (a b : Nat) (w : World) (ha : a < 4294967296) (hb : b < 4294967296) :
    Calls Try.prog 121 #[.int .u64 a, .int .u64 b] w fun e w' => e = .returned (.int .u64 (powS a b : Nat)) ∧ w = w' := by
  have hp := powS_le ha hb
  have h1 := powS_one a b
  go_enter Try.func121, Try.ntmps121
  go_wp2
  go_loop [5] (fun v => ∃ p : Nat, v = .int .u64 p ∧ p ≤ 4294967296 ∧ Hid (p ≤ powS a b ∧ ∃ k, p = 2 ^ k)) (fun v => 4294967297 - (intOf v).toNat)
  case atStart => exact ⟨1, rfl, by omega, Lib.hid ⟨h1, 0, rfl⟩⟩
  case round =>
    obtain ⟨p, rfl, hq, HP⟩ := hrel
    clear hp h1
    by_cases c1 : p ≤ a
    · have c1' : (p : Int) ≤ (a : Int) := by omega
      have HN : Hid (2 * p ≤ powS a b ∧ ∃ k, 2 * p = 2 ^ k) := Lib.hid (by
        obtain ⟨g, k, rfl⟩ := HP.out
        have := powS_step (a := a) (b := b) (k := k) (Or.inl c1)
        exact ⟨by rw [Nat.pow_succ] at this; omega, k + 1, by rw [Nat.pow_succ]; omega⟩)
      have hn : 2 * p ≤ 4294967296 := Nat.le_trans HN.out.1 (powS_le ha hb)
      have hpos : 0 < p := by obtain ⟨_, k, rfl⟩ := HP.out; exact Nat.pow_pos (by decide)
      clear HP
      go_wp2
      go_round
      case rel => exact ⟨2 * p, by go_num, hn, HN⟩
      case measure => simp [intOf]; omega
    · have c1' : ¬ (p : Int) ≤ (a : Int) := by omega
      by_cases c2 : p ≤ b
      · have c2' : (p : Int) ≤ (b : Int) := by omega
        have HN : Hid (2 * p ≤ powS a b ∧ ∃ k, 2 * p = 2 ^ k) := Lib.hid (by
          obtain ⟨g, k, rfl⟩ := HP.out
          have := powS_step (a := a) (b := b) (k := k) (Or.inr c2)
          exact ⟨by rw [Nat.pow_succ] at this; omega, k + 1, by rw [Nat.pow_succ]; omega⟩)
        have hn : 2 * p ≤ 4294967296 := Nat.le_trans HN.out.1 (powS_le ha hb)
        have hpos : 0 < p := by obtain ⟨_, k, rfl⟩ := HP.out; exact Nat.pow_pos (by decide)
        clear HP
        go_wp2
        go_round
        case rel => exact ⟨2 * p, by go_num, hn, HN⟩
        case measure => simp [intOf]; omega
      · have c2' : ¬ (p : Int) ≤ (b : Int) := by omega
        have HE : Hid (p = powS a b) := Lib.hid (by
          obtain ⟨g, k, rfl⟩ := HP.out
          exact powS_end g (by omega) (by omega))
        clear HP
        go_wp2
        go_ret
        exact ⟨by rw [← HE.out]; rfl, rfl⟩
end Go.Proofs.Ytebdnobgdimdoaa
