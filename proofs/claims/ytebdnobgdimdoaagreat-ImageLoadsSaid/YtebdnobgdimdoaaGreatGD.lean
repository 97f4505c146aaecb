/- Whole numbers below 2^53 as floats of 64 bits: they are kept exactly, stand as the numbers do, and come back as they were. Nothing of the program. The simple functions of bounds, at bounds that may be. bounds: Ends, Has, Join, fit, power. What is done with two words (chapter 1), as plain functions of whole numbers, and what holds of them. Nothing of the program. bounds: what is done with bounds, by each operation. bounds: what is done with bounds, more operations. -/
import Derived.Laws.FloatArith
import Derived.Test.YtebdnobgdimdoaaGreatProg
import Derived.Test.YtebdnobgdimdoaaGreatGA
import Derived.KernelRfl
import Derived.WalkLawsBesides
import Derived.WalkSpells
import Derived.Outline
import Derived.Lib.Hide
import Derived.BigQuiet
import Derived.Deep.QuietTactic
import Derived.LoopTactic
import Derived.Laws.BitsAllLaws
import Derived.Laws.EntriesVeiled
import Derived.Deep.RegionHeld3
import Derived.Deep.DeepCutAuto
import Derived.StillTailTactics
set_option linter.unusedVariables false
set_option linter.unusedSimpArgs false
namespace Go.Proofs.YtebdnobgdimdoaaGreat
open Ieee
/-- A number as a float. -/
def fl (n : Nat) : Nat := Ieee.double.write (Datum.number false n 0)
theorem fl_zero : fl 0 = 0 := by decide
theorem read_zero : Ieee.double.read 0 = Datum.number false 0 (-1074) := by decide
theorem read_write {n : Nat} (h0 : 0 < n) (h1 : n < 2 ^ 53) : Ieee.double.read (fl n) = Datum.number false (n * 2 ^ (52 - n.log2)) (-((52 - n.log2 : Nat) : Int)) := by
  have hL : n.log2 ≤ 52 := by have := (Nat.log2_lt (by omega)).2 h1; omega
  have hlo : 2 ^ n.log2 ≤ n := Nat.log2_self_le (by omega)
  have hhi : n < 2 ^ (n.log2 + 1) := Nat.lt_log2_self
  obtain ⟨L, hLe⟩ : ∃ L, n.log2 = L := ⟨_, rfl⟩
  rw [hLe] at hL hlo hhi ⊢
  obtain ⟨m, hm⟩ : ∃ m, n * 2 ^ (52 - L) = m := ⟨_, rfl⟩
  have hm1 : 2 ^ 52 ≤ m := by
    rw [← hm]
    calc 2 ^ 52 = 2 ^ L * 2 ^ (52 - L) := by rw [← Nat.pow_add]; congr 1; omega
      _ ≤ n * 2 ^ (52 - L) := Nat.mul_le_mul_right _ hlo
  have hm2 : m < 2 ^ 53 := by
    rw [← hm]
    calc n * 2 ^ (52 - L) < 2 ^ (L + 1) * 2 ^ (52 - L) := Nat.mul_lt_mul_of_pos_right hhi (Nat.pow_pos (by decide))
      _ = 2 ^ 53 := by rw [← Nat.pow_add]; congr 1; omega
  have hfl : fl n = (L + 1022) * 2 ^ 52 + m := by
    unfold fl Format.write Format.nearest
    simp only
    rw [if_neg (by omega), hLe]
    have e1 : max ((0 : Int) + (L : Int) - ((Ieee.double.fractionBits : Nat) : Int)) Ieee.double.leastPlace = (L : Int) - 52 := by
      have : Ieee.double.leastPlace = -1074 := by decide
      have h2 : Ieee.double.fractionBits = 52 := rfl
      rw [this, h2]; omega
    rw [e1]
    have e2 : ((0 : Int) - ((L : Int) - 52)).toNat = 52 - L := by omega
    have e3 : ((L : Int) - 52 - 0).toNat = 0 := by omega
    have e4 : ((L : Int) - 52 - Ieee.double.leastPlace).toNat = L + 1022 := by
      have : Ieee.double.leastPlace = -1074 := by decide
      rw [this]; omega
    rw [e2, e3, e4, Nat.shiftLeft_eq, hm]
    have e5 : Toward.even.cut false m 0 = m := by
      simp [Toward.cut, Nat.mod_one]
    rw [e5]
    have e6 : Ieee.double.binade = 2 ^ 52 := rfl
    have e7 : Ieee.double.infRung = 2047 * 2 ^ 52 := by decide
    rw [e6, e7, Nat.min_eq_left (by omega)]
    rfl
  rw [hfl, hm]
  unfold Format.read
  have s1 : Ieee.double.signWeight = 2 ^ 63 := by decide
  have s2 : Ieee.double.binade = 2 ^ 52 := rfl
  have s3 : Ieee.double.infRung = 2047 * 2 ^ 52 := by decide
  have s4 : Ieee.double.leastPlace = -1074 := by decide
  simp only [s1, s2, s3, s4]
  have hlt : (L + 1022) * 2 ^ 52 + m < 2 ^ 63 := by omega
  rw [Nat.mod_eq_of_lt hlt, Nat.div_eq_of_lt hlt]
  rw [if_neg (by omega), if_pos (by omega)]
  congr 1
  · omega
  · omega
theorem pow_shift {a b : Nat} (h : a ≤ b) : (2 : Nat) ^ a * 2 ^ (b - a) = 2 ^ b := by rw [← Nat.pow_add]; congr 1; omega
/-- All at once: the number's digits, and how many of them stand behind the point. -/
theorem read_fl {n : Nat} (h1 : n < 2 ^ 53) : ∃ e : Nat, e ≤ 1074 ∧ (0 < n → e ≤ 52 ∧ 2 ^ e ≤ n * 2 ^ e ∧ e ≤ (n * 2 ^ e).log2) ∧ Ieee.double.read (fl n) = Datum.number false (n * 2 ^ e) (-(e : Int)) := by
  rcases Nat.eq_zero_or_pos n with h | h
  · subst h
    obtain ⟨e, he⟩ : ∃ e : Nat, e = 1074 := ⟨_, rfl⟩
    exact ⟨e, by omega, fun h => absurd h (by omega), by rw [fl_zero, read_zero, Nat.zero_mul, he]; rfl⟩
  · refine ⟨52 - n.log2, by omega, fun _ => ⟨by omega, Nat.le_mul_of_pos_left _ h, ?_⟩, read_write h h1⟩
    rw [Nat.le_log2 (by have := Nat.pow_pos (n := 52 - n.log2) (show 0 < 2 by decide); exact Nat.ne_of_gt (Nat.mul_pos h this))]
    exact Nat.le_mul_of_pos_left _ h
theorem order_fl {a b : Nat} (ha : a < 2 ^ 53) (hb : b < 2 ^ 53) : Ieee.double.order (fl a) (fl b) = some (compare a b) := by
  obtain ⟨e1, _, _, r1⟩ := read_fl ha
  obtain ⟨e2, _, _, r2⟩ := read_fl hb
  unfold Format.order
  rw [r1, r2]
  simp only [Datum.order]
  have hk : ∀ (x e m : Nat), e ≤ m → Ieee.signed false (x * 2 ^ e) ((-(e : Int)) - (-(m : Int))).toNat = ((x * 2 ^ m : Nat) : Int) := by
    intro x e m h
    have : ((-(e : Int)) - (-(m : Int))).toNat = m - e := by omega
    rw [this]
    simp only [Ieee.signed]
    simp [Nat.shiftLeft_eq, Nat.mul_assoc, pow_shift h]
  have hb : min (-(e1 : Int)) (-(e2 : Int)) = -((max e1 e2 : Nat) : Int) := by omega
  rw [hb, hk a e1 _ (by omega), hk b e2 _ (by omega)]
  have hp : 0 < 2 ^ (max e1 e2) := Nat.pow_pos (by decide)
  generalize 2 ^ (max e1 e2) = K at *
  congr 1
  rcases Nat.lt_trichotomy a b with h | h | h
  · have h2 : a * K < b * K := Nat.mul_lt_mul_of_pos_right h hp
    have e3 : compare a b = .lt := Nat.compare_eq_lt.2 h
    rw [e3]
    simp only [compare, compareOfLessAndEq]
    rw [if_pos (by omega)]
  · subst h
    simp [compare, compareOfLessAndEq]
  · have h2 : b * K < a * K := Nat.mul_lt_mul_of_pos_right h hp
    have e3 : compare a b = .gt := Nat.compare_eq_gt.2 h
    rw [e3]
    simp only [compare, compareOfLessAndEq]
    rw [if_neg (by omega), if_neg (by omega)]
theorem toInt_fl {n : Nat} (h1 : n < 2 ^ 53) : (Ieee.double.read (fl n)).toInt .zero = some (n : Int) := by
  obtain ⟨e, _, h, r⟩ := read_fl h1
  rw [r]
  unfold Datum.toInt Datum.integral
  simp only
  have : (-(e : Int)).toNat = 0 := by omega
  have h2 : (-(-(e : Int))).toNat = e := by omega
  rw [this, h2]
  have hc : Toward.zero.cut false ((n * 2 ^ e) <<< 0) e = n := by
    simp only [Toward.cut, Nat.shiftLeft_zero]
    rcases Nat.eq_zero_or_pos n with h0 | h0
    · subst h0; simp
    · obtain ⟨_, _, h3⟩ := h h0
      rw [Nat.min_eq_left (by omega)]
      simp [Nat.shiftLeft_eq, Nat.mul_div_cancel _ (Nat.pow_pos (n := e) (show 0 < 2 by decide))]
  rw [hc]
  simp [Ieee.signed]
end Go.Proofs.YtebdnobgdimdoaaGreat
set_option linter.unusedVariables false
set_option linter.unusedSimpArgs false
namespace Go.Proofs.YtebdnobgdimdoaaGreat
open Go.RowKit
theorem fl_int (n : Nat) : floatOfInt .f64 (n : Int) = fl n := by
  unfold floatOfInt FloatKind.nearest
  have : decide ((n : Int) < 0) = false := by simp
  simp [fl, FloatKind.encode, FloatKind.format, this]
theorem fl_last : fl 4294967295 = 4751297606873776128 := by decide +kernel
theorem ord {a b : Nat} (ha : a < 4294967296) (hb : b < 4294967296) : FloatKind.f64.format.order (fl a) (fl b) = some (compare a b) := order_fl (by omega) (by omega)
theorem ord_le {a b : Nat} (ha : a < 4294967296) (hb : b < 4294967296) (h : a ≤ b) : (FloatKind.f64.format.order (fl a) (fl b) == some Ordering.lt || FloatKind.f64.format.order (fl a) (fl b) == some Ordering.eq) = true := by
  rw [ord ha hb]
  rcases Nat.lt_or_eq_of_le h with h | h
  · rw [Nat.compare_eq_lt.2 h]; rfl
  · rw [Nat.compare_eq_eq.2 h]; rfl
theorem ord_ge0 {a : Nat} (ha : a < 4294967296) : (FloatKind.f64.format.order (fl a) 0 == some Ordering.gt || FloatKind.f64.format.order (fl a) 0 == some Ordering.eq) = true := by
  have := ord ha (b := 0) (by decide)
  rw [fl_zero] at this
  rw [this]
  rcases Nat.eq_zero_or_pos a with h | h
  · rw [Nat.compare_eq_eq.2 h]; rfl
  · rw [Nat.compare_eq_gt.2 h]; rfl
theorem ord_last {a : Nat} (ha : a < 4294967296) : (FloatKind.f64.format.order (fl a) 4751297606873776128 == some Ordering.lt || FloatKind.f64.format.order (fl a) 4751297606873776128 == some Ordering.eq) = true := by
  rw [← fl_last]; exact ord_le ha (by decide) (by omega)
theorem ord_same {a : Nat} (ha : a < 4294967296) : FloatKind.f64.format.order (fl a) (fl a) = some Ordering.eq := by rw [ord ha ha]; simp
theorem fl_inj {a b : Nat} (ha : a < 4294967296) (hb : b < 4294967296) (h : fl a = fl b) : a = b := by
  have := ord ha hb
  rw [h, ord_same hb] at this
  simp at this
  exact Nat.compare_eq_eq.1 this.symm
theorem conv_fl (n : Nat) (hn : n < 4294967296) : ∀ w, (convert 210 133 (.float .f64 (fl n))).run Tryz.prog w = .ok (.int .u64 n) w := by
  intro w
  refine run_convert_float_int w 210 133 .f64 .u64 (fl n) n (by kernel_rfl) Tryz.underlying133 ?_
  unfold floatToIntVal
  have : FloatKind.f64.decode (fl n) = Ieee.double.read (fl n) := rfl
  rw [this, toInt_fl (by omega)]
  simp [IntKind.min, IntKind.max, IntKind.bits, IntKind.signed]
  omega
set_option maxHeartbeats 400000 in
theorem word_any (n : Nat) (w : World) (hn : n < 4294967296) :
    Calls Tryz.prog 137 #[.float .f64 (fl n)] w fun e w' => e = .returned (.bool true) ∧ w = w' := by
  have o1 := ord_ge0 hn
  have o2 := ord_last hn
  have o3 := ord_same hn
  have c1 := conv_fl n hn
  have c2 := fl_int n
  go_enter Tryz.func137, Tryz.ntmps137
  go_wp2
  go_ret
  exact ⟨by simp, rfl⟩
set_option maxHeartbeats 400000 in
theorem bmay_any (l h : Nat) (w : World) (hl : l ≤ h) (hh : h < 4294967296) :
    Calls Tryz.prog 90 #[.complex .f64 (fl l) (fl h)] w fun e w' => e = .returned (.bool true) ∧ w = w' := by
  have o1 := ord_le (by omega) hh hl
  go_enter Tryz.func90, Tryz.ntmps90
  go_wp2_with (first | (go_at_call 137; refine (word_any _ _ (by omega)).mono ?_; rintro e w1 ⟨rfl, rfl⟩))
  go_ret
  exact ⟨by simp, rfl⟩
set_option maxHeartbeats 400000 in
theorem told_any (l h : Nat) (w : World) :
    Calls Tryz.prog 148 #[.agg #[.int .u64 l, .int .u64 h]] w fun e w' => e = .returned (.complex .f64 (fl l) (fl h)) ∧ Bel w w' := by
  have c1 := fl_int l
  have c2 := fl_int h
  go_enter Tryz.func148, Tryz.ntmps148
  go_wp2
  go_ret
  exact ⟨by simp, (Bel.refl _).alloc _⟩
set_option maxHeartbeats 400000 in
theorem of_any (l h : Nat) (w : World) (hl : l ≤ h) (hh : h < 4294967296) :
    Calls Tryz.prog 91 #[.complex .f64 (fl l) (fl h)] w fun e w' => e = .returned (.agg #[.int .u64 l, .int .u64 h]) ∧ w.alloc (.cells #[.int .u64 l, .int .u64 h] 164) = w' := by
  have c1 := conv_fl l (by omega)
  have c2 := conv_fl h hh
  go_enter Tryz.func91, Tryz.ntmps91
  go_wp2_with (first | (go_at_call 90; refine (bmay_any _ _ _ hl hh).mono ?_; rintro e w1 ⟨rfl, rfl⟩))
  refine bodyPost_ret (v := .agg #[.int .u64 l, .int .u64 h]) ?_ rfl ⟨rfl, rfl⟩
  simp [results, Tryz.results91, go_sem]
set_option maxHeartbeats 400000 in
theorem Of_any (a b : Nat) (w : World) (ha : a < 4294967296) (hb : b < 4294967296) :
    Calls Tryz.prog 120 #[.int .u32 a, .int .u32 b] w fun e w' => e = .returned (.complex .f64 (fl (min a b)) (fl (max a b))) ∧ Bel w w' := by
  rcases Nat.lt_trichotomy a b with h | h | h
  · rw [Nat.min_eq_left (by omega), Nat.max_eq_right (by omega)]
    have h1 : (a : Int) < (b : Int) := by omega
    have h2 : ¬ (b : Int) < (a : Int) := by omega
    go_enter Tryz.func120, Tryz.ntmps120
    go_wp2_with (first | (go_at_call 148; refine (told_any a b _).mono ?_; rintro e w1 ⟨rfl, hb1⟩))
    go_ret
    exact ⟨by simp, hb1⟩
  · subst h
    rw [Nat.min_self, Nat.max_self]
    go_enter Tryz.func120, Tryz.ntmps120
    go_wp2_with (first | (go_at_call 148; refine (told_any a a _).mono ?_; rintro e w1 ⟨rfl, hb1⟩))
    go_ret
    exact ⟨by simp, hb1⟩
  · rw [Nat.min_eq_right (by omega), Nat.max_eq_left (by omega)]
    have h1 : (b : Int) < (a : Int) := by omega
    have h2 : ¬ (a : Int) < (b : Int) := by omega
    go_enter Tryz.func120, Tryz.ntmps120
    go_wp2_with (first | (go_at_call 148; refine (told_any b a _).mono ?_; rintro e w1 ⟨rfl, hb1⟩))
    go_ret
    exact ⟨by simp, hb1⟩
end Go.Proofs.YtebdnobgdimdoaaGreat
set_option linter.unusedVariables false
set_option linter.unusedSimpArgs false
namespace Go.Proofs.YtebdnobgdimdoaaGreat
open Go.RowKit
def nmax (a b : Nat) : Nat := max a b
def nmin (a b : Nat) : Nat := min a b
theorem max2_nat (k k' : IntKind) (a b : Nat) : Builtin.max2 (.int k a) (.int k' b) = pure (.int k (nmax a b : Nat)) := by
  simp only [Builtin.max2, nmax, gt_iff_lt]
  split
  · rw [Nat.max_eq_right (by omega)]
  · rw [Nat.max_eq_left (by omega)]
theorem min2_nat (k k' : IntKind) (a b : Nat) : Builtin.min2 (.int k a) (.int k' b) = pure (.int k (nmin a b : Nat)) := by
  simp only [Builtin.min2, nmin]
  split
  · rw [Nat.min_eq_right (by omega)]
  · rw [Nat.min_eq_left (by omega)]
theorem bmax_two (ats : Array TypeId) (ty : TypeId) (a b : Value) : Builtin.max_ ats ty #[a, b] = (Builtin.max2 a b >>= fun s => pure s) := by simp only [Builtin.max_, List.foldlM_cons, List.foldlM_nil]
theorem bmin_two (ats : Array TypeId) (ty : TypeId) (a b : Value) : Builtin.min_ ats ty #[a, b] = (Builtin.min2 a b >>= fun s => pure s) := by simp only [Builtin.min_, List.foldlM_cons, List.foldlM_nil]
attribute [local go_sem] max2_nat min2_nat bmax_two bmin_two
set_option maxHeartbeats 400000 in
theorem ends_any (l h : Nat) (w : World) (hl : l ≤ h) (hh : h < 4294967296) :
    Calls Tryz.prog 134 #[.complex .f64 (fl l) (fl h)] w fun e w' => e = .returned (.tuple #[.int .u32 l, .int .u32 h, .bool true]) ∧ Bel w w' := by
  have HB := Bel.refl w
  have b1 : (l : Int) < 4294967296 := by omega
  have b2 : (h : Int) < 4294967296 := by omega
  go_enter Tryz.func134, Tryz.ntmps134
  go_wp2_with (first | (go_at_call 90; refine (bmay_any _ _ _ hl hh).mono ?_; rintro e w1 ⟨rfl, rfl⟩) | (go_at_call 91; refine (of_any _ _ _ hl hh).mono ?_; rintro e w1 ⟨rfl, rfl⟩))
  go_quiet (fail)
  go_wp2
  go_ret3
  exact ⟨by simp, by repeat (first | exact HB | apply Bel.drewN | apply Bel.alloc)⟩
set_option maxHeartbeats 1000000 in
theorem join_any (l1 h1 l2 h2 : Nat) (w : World) (hl1 : l1 ≤ h1) (hh1 : h1 < 4294967296) (hl2 : l2 ≤ h2) (hh2 : h2 < 4294967296) :
    Calls Tryz.prog 122 #[.complex .f64 (fl l1) (fl h1), .complex .f64 (fl l2) (fl h2)] w fun e w' => e = .returned (.complex .f64 (fl (nmin l1 l2)) (fl (nmax h1 h2))) ∧ Bel w w' := by
  have HB := Bel.refl w
  go_enter Tryz.func122, Tryz.ntmps122
  go_wp2_with fail
  refine (of_any l1 h1 _ hl1 hh1).mono ?_
  rintro e w1 ⟨rfl, rfl⟩
  go_wp2_with fail
  refine (of_any l2 h2 _ hl2 hh2).mono ?_
  rintro e w1 ⟨rfl, rfl⟩
  go_wp2_with fail
  refine (told_any _ _ _).mono ?_
  rintro e w1 ⟨rfl, hb1⟩
  go_wp2
  go_ret
  exact ⟨by simp, Bel.trans (by repeat (first | exact HB | apply Bel.alloc)) hb1⟩
/-- Bounds that fit, or all. -/
def fitS (lo hi : Nat) : Nat × Nat := if 4294967295 < hi ∨ hi < lo then (0, 4294967295) else (lo, hi)
set_option maxHeartbeats 400000 in
theorem fit_any (lo hi : Nat) (w : World) (h1 : lo ≤ 18446744073709551615) (h2 : hi ≤ 18446744073709551615) :
    Calls Tryz.prog 152 #[.int .u64 lo, .int .u64 hi] w fun e w' => e = .returned (.agg #[.int .u64 (fitS lo hi).1, .int .u64 (fitS lo hi).2]) ∧ Bel w w' := by
  clear h1 h2
  by_cases c1 : 4294967295 < hi
  · have c1' : (4294967295 : Int) < (hi : Int) := by omega
    have e : fitS lo hi = (0, 4294967295) := if_pos (Or.inl c1)
    rw [e]
    clear e c1
    go_enter Tryz.func152, Tryz.ntmps152
    go_wp2
    refine bodyPost_ret (v := .agg #[.int .u64 0, .int .u64 4294967295]) ?_ rfl ⟨rfl, (Bel.refl _).alloc _⟩
    simp [results, Tryz.results152, go_sem]
  · have c1' : ¬ (4294967295 : Int) < (hi : Int) := by omega
    by_cases c2 : hi < lo
    · have c2' : (hi : Int) < (lo : Int) := by omega
      have e : fitS lo hi = (0, 4294967295) := if_pos (Or.inr c2)
      rw [e]
      clear e c1 c2
      go_enter Tryz.func152, Tryz.ntmps152
      go_wp2
      refine bodyPost_ret (v := .agg #[.int .u64 0, .int .u64 4294967295]) ?_ rfl ⟨rfl, (Bel.refl _).alloc _⟩
      simp [results, Tryz.results152, go_sem]
    · have c2' : ¬ (hi : Int) < (lo : Int) := by omega
      have e : fitS lo hi = (lo, hi) := if_neg (by omega)
      rw [e]
      clear e c1 c2
      go_enter Tryz.func152, Tryz.ntmps152
      go_wp2
      refine bodyPost_ret (v := .agg #[.int .u64 lo, .int .u64 hi]) ?_ rfl ⟨rfl, (Bel.refl _).alloc _⟩
      simp [results, Tryz.results152, go_sem]
/-- The least power of two above two numbers. -/
def powS (a b : Nat) : Nat := if max a b = 0 then 1 else 2 ^ ((max a b).log2 + 1)
theorem powS_gt (a b : Nat) : a < powS a b ∧ b < powS a b := by
  unfold powS
  split
  · omega
  · have := Nat.lt_log2_self (n := max a b)
    omega
theorem powS_le {a b : Nat} (ha : a < 4294967296) (hb : b < 4294967296) : powS a b ≤ 4294967296 := by
  unfold powS
  split
  · omega
  · have : (max a b).log2 < 32 := (Nat.log2_lt (by omega)).2 (by omega)
    exact Nat.pow_le_pow_right (n := 2) (j := 32) (by decide) (by omega)
theorem powS_pow (a b : Nat) : ∃ k, powS a b = 2 ^ k := by
  unfold powS
  split
  · exact ⟨0, rfl⟩
  · exact ⟨_, rfl⟩
/-- A power of two that isn't above both is less than what is told. -/
theorem powS_step {a b k : Nat} (h : 2 ^ k ≤ a ∨ 2 ^ k ≤ b) : 2 ^ (k + 1) ≤ powS a b := by
  unfold powS
  have h1 : 2 ^ k ≤ max a b := by omega
  have h0 : 0 < 2 ^ k := Nat.pow_pos (by decide)
  rw [if_neg (by omega)]
  apply Nat.pow_le_pow_right (by decide)
  have : k ≤ (max a b).log2 := (Nat.le_log2 (by omega)).2 h1
  omega
theorem powS_end {a b k : Nat} (h : 2 ^ k ≤ powS a b) (h1 : a < 2 ^ k) (h2 : b < 2 ^ k) : 2 ^ k = powS a b := by
  apply Nat.le_antisymm h
  unfold powS
  split
  · exact Nat.one_le_two_pow
  · rename_i hz
    apply Nat.pow_le_pow_right (by decide)
    have : (max a b).log2 < k := (Nat.log2_lt hz).2 (by omega)
    omega
theorem powS_one (a b : Nat) : 1 ≤ powS a b := by have := powS_gt a b; omega
set_option maxHeartbeats 1000000 in
theorem power_loop (a b : Nat) (w : World) (ha : a < 4294967296) (hb : b < 4294967296) :
    Calls Tryz.prog 162 #[.int .u64 a, .int .u64 b] w fun e w' => e = .returned (.int .u64 (powS a b : Nat)) ∧ w = w' := by
  have hp := powS_le ha hb
  have h1 := powS_one a b
  go_enter Tryz.func162, Tryz.ntmps162
  go_wp2
  go_loop [5] (fun v => ∃ p : Nat, v = .int .u64 p ∧ p ≤ 4294967296 ∧ Hid (p ≤ powS a b ∧ ∃ k, p = 2 ^ k)) (fun v => 4294967297 - (intOf v).toNat)
  case atStart => exact ⟨1, rfl, by omega, Lib.hid ⟨h1, 0, rfl⟩⟩
  case round =>
    obtain ⟨p, rfl, hq, HP⟩ := hrel
    clear hp h1
    by_cases c1 : p ≤ a
    · have c1' : (p : Int) ≤ (a : Int) := by omega
      have HN : Hid (2 * p ≤ powS a b ∧ ∃ k, 2 * p = 2 ^ k) := Lib.hid (by
        obtain ⟨g, k, rfl⟩ := HP.out
        have := powS_step (a := a) (b := b) (k := k) (Or.inl c1)
        exact ⟨by rw [Nat.pow_succ] at this; omega, k + 1, by rw [Nat.pow_succ]; omega⟩)
      have hn : 2 * p ≤ 4294967296 := Nat.le_trans HN.out.1 (powS_le ha hb)
      have hpos : 0 < p := by obtain ⟨_, k, rfl⟩ := HP.out; exact Nat.pow_pos (by decide)
      clear HP
      go_wp2
      go_round
      case rel => exact ⟨2 * p, by go_num, hn, HN⟩
      case measure => simp [intOf]; omega
    · have c1' : ¬ (p : Int) ≤ (a : Int) := by omega
      by_cases c2 : p ≤ b
      · have c2' : (p : Int) ≤ (b : Int) := by omega
        have HN : Hid (2 * p ≤ powS a b ∧ ∃ k, 2 * p = 2 ^ k) := Lib.hid (by
          obtain ⟨g, k, rfl⟩ := HP.out
          have := powS_step (a := a) (b := b) (k := k) (Or.inr c2)
          exact ⟨by rw [Nat.pow_succ] at this; omega, k + 1, by rw [Nat.pow_succ]; omega⟩)
        have hn : 2 * p ≤ 4294967296 := Nat.le_trans HN.out.1 (powS_le ha hb)
        have hpos : 0 < p := by obtain ⟨_, k, rfl⟩ := HP.out; exact Nat.pow_pos (by decide)
        clear HP
        go_wp2
        go_round
        case rel => exact ⟨2 * p, by go_num, hn, HN⟩
        case measure => simp [intOf]; omega
      · have c2' : ¬ (p : Int) ≤ (b : Int) := by omega
        have HE : Hid (p = powS a b) := Lib.hid (by
          obtain ⟨g, k, rfl⟩ := HP.out
          exact powS_end g (by omega) (by omega))
        clear HP
        go_wp2
        go_ret
        exact ⟨by rw [← HE.out]; rfl, rfl⟩
end Go.Proofs.YtebdnobgdimdoaaGreat
set_option linter.unusedVariables false
set_option linter.unusedSimpArgs false
set_option linter.unusedSectionVars false
namespace Go.Proofs.YtebdnobgdimdoaaGreat
open Go.RowKit
/-- What is done with two words. -/
def aluI (op a b : Int) : Int :=
  if op = 0 then b else if op = 1 then (a + b) % 4294967296 else if op = 2 then (a - b) % 4294967296 else if op = 3 then (a * b) % 4294967296
  else if op = 4 then (if b = 0 then 0 else a / b) else if op = 5 then (if b = 0 then a else a % b)
  else if op = 6 then bits .and .u32 a b else if op = 7 then bits .or .u32 a b else if op = 8 then bits .xor .u32 a b
  else if op = 9 then a * 2 ^ (b % 32).toNat % 4294967296 else if op = 10 then a / 2 ^ (b % 32).toNat else 0
def aluOk (op : Int) : Bool := decide (0 ≤ op ∧ op < 11)
/-- How two words stand. -/
def holdsI (c a b : Int) : Bool :=
  if c = 0 then true else if c = 1 then decide (a = b) else if c = 2 then decide (a ≠ b) else if c = 3 then decide (a < b) else if c = 4 then decide (b ≤ a) else false
def holdsOk (c : Int) : Bool := decide (0 ≤ c ∧ c < 5)
theorem mulmod_r (x y n : Int) : x * (y % n) % n = x * y % n := by rw [Int.mul_emod, Int.emod_emod, ← Int.mul_emod]
theorem mulmod_l (x y n : Int) : (x % n) * y % n = x * y % n := by rw [Int.mul_emod, Int.emod_emod, ← Int.mul_emod]
theorem aluI_0 (a b : Int) : aluI 0 a b = b := by simp [aluI]
theorem aluI_1 (a b : Int) : aluI 1 a b = (a + b) % 4294967296 := by simp [aluI]
theorem aluI_2 (a b : Int) : aluI 2 a b = (a - b) % 4294967296 := by simp [aluI]
theorem aluI_3 (a b : Int) : aluI 3 a b = (a * b) % 4294967296 := by simp [aluI]
theorem aluI_4 (a b : Int) : aluI 4 a b = if b = 0 then 0 else a / b := by simp [aluI]
theorem aluI_5 (a b : Int) : aluI 5 a b = if b = 0 then a else a % b := by simp [aluI]
theorem aluI_6 (a b : Int) : aluI 6 a b = bits .and .u32 a b := by simp [aluI]
theorem aluI_7 (a b : Int) : aluI 7 a b = bits .or .u32 a b := by simp [aluI]
theorem aluI_8 (a b : Int) : aluI 8 a b = bits .xor .u32 a b := by simp [aluI]
theorem aluI_9 (a b : Int) : aluI 9 a b = a * 2 ^ (b % 32).toNat % 4294967296 := by simp [aluI]
theorem aluI_10 (a b : Int) : aluI 10 a b = a / 2 ^ (b % 32).toNat := by simp [aluI]
theorem aluI_and {a b : Int} (ha : U32 a) (hb : U32 b) : aluI 6 a b = ((a.toNat &&& b.toNat : Nat) : Int) := by rw [aluI_6, u32_and a b ha.lo ha.hi hb.lo hb.hi]
theorem aluI_or {a b : Int} (ha : U32 a) (hb : U32 b) : aluI 7 a b = ((a.toNat ||| b.toNat : Nat) : Int) := by rw [aluI_7, u32_or a b ha.lo ha.hi hb.lo hb.hi]
theorem aluI_xor {a b : Int} (ha : U32 a) (hb : U32 b) : aluI 8 a b = ((a.toNat ^^^ b.toNat : Nat) : Int) := by rw [aluI_8, u32_xor a b ha.lo ha.hi hb.lo hb.hi]
theorem toNat_lt {a : Int} (ha : U32 a) : a.toNat < 2 ^ 32 := by have := ha.lo; have := ha.hi; omega
theorem aluI_u32 (op : Int) {a b : Int} (ha : U32 a) (hb : U32 b) : U32 (aluI op a b) := by
  have h1 := ha.lo; have h2 := ha.hi; have h3 := hb.lo; have h4 := hb.hi
  by_cases hop : 0 ≤ op ∧ op < 11
  · obtain rfl | rfl | rfl | rfl | rfl | rfl | rfl | rfl | rfl | rfl | rfl : op = 0 ∨ op = 1 ∨ op = 2 ∨ op = 3 ∨ op = 4 ∨ op = 5 ∨ op = 6 ∨ op = 7 ∨ op = 8 ∨ op = 9 ∨ op = 10 := by omega
    · rw [aluI_0]; exact hb
    · rw [aluI_1]; exact ⟨by omega, by omega⟩
    · rw [aluI_2]; exact ⟨by omega, by omega⟩
    · rw [aluI_3]; exact ⟨by omega, by omega⟩
    · rw [aluI_4]
      split
      · exact ⟨by omega, by omega⟩
      · have := Int.ediv_nonneg h1 h3
        have := Int.ediv_le_self b h1
        exact ⟨by omega, by omega⟩
    · rw [aluI_5]
      split
      · exact ha
      · have := Int.emod_nonneg a (show b ≠ 0 by omega)
        have := Int.emod_lt_of_pos a (show 0 < b by omega)
        exact ⟨by omega, by omega⟩
    · rw [aluI_and ha hb]
      have := @Nat.and_lt_two_pow a.toNat b.toNat 32 (toNat_lt hb)
      exact ⟨by omega, by omega⟩
    · rw [aluI_or ha hb]
      have := @Nat.or_lt_two_pow a.toNat b.toNat 32 (toNat_lt ha) (toNat_lt hb)
      exact ⟨by omega, by omega⟩
    · rw [aluI_xor ha hb]
      have := @Nat.xor_lt_two_pow a.toNat b.toNat 32 (toNat_lt ha) (toNat_lt hb)
      exact ⟨by omega, by omega⟩
    · rw [aluI_9]; exact ⟨by omega, by omega⟩
    · rw [aluI_10]
      have hp : (0 : Int) < 2 ^ (b % 32).toNat := Int.pow_pos (by decide)
      have := Int.ediv_nonneg h1 (Int.le_of_lt hp)
      have := Int.ediv_le_self (2 ^ (b % 32).toNat) h1
      exact ⟨by omega, by omega⟩
  · have : aluI op a b = 0 := by unfold aluI; repeat (first | rw [if_neg (by omega)] | rfl)
    rw [this]; exact ⟨by omega, by omega⟩
theorem aluI_none {op : Int} (a b : Int) (h : ¬ (0 ≤ op ∧ op < 11)) : aluI op a b = 0 := by unfold aluI; repeat (first | rw [if_neg (by omega)] | rfl)
theorem holdsI_none {c : Int} (a b : Int) (h : ¬ (0 ≤ c ∧ c < 5)) : holdsI c a b = false := by unfold holdsI; repeat (first | rw [if_neg (by omega)] | rfl)
/-! ### The laws of chapter 1, over plain numbers -/
section
variable {a b c : Int} (ha : U32 a) (hb : U32 b) (hc : U32 c)
include ha
theorem xor_self : aluI 8 a a = 0 := by rw [aluI_xor ha ha, Nat.xor_self]; rfl
theorem and_self : aluI 6 a a = a := by rw [aluI_and ha ha, Nat.and_self]; have := ha.lo; omega
theorem or_zero : aluI 7 a 0 = a := by rw [aluI_or ha (u32_lit 0 (by decide)), show (0 : Int).toNat = 0 from rfl, Nat.or_zero]; have := ha.lo; omega
theorem xor_ones : aluI 8 a 4294967295 = 4294967295 - a := by
  rw [aluI_xor ha (u32_lit 4294967295 (by decide))]
  have h : (a.toNat ^^^ (4294967295 : Int).toNat) = 4294967295 - a.toNat := by
    apply Nat.eq_of_testBit_eq
    intro i
    have h1 : (4294967295 : Int).toNat = 2 ^ 32 - 1 := by decide
    have h2 : 4294967295 - a.toNat = 2 ^ 32 - (a.toNat + 1) := by omega
    rw [h1, h2, Nat.testBit_xor, Nat.testBit_two_pow_sub_one, Nat.testBit_two_pow_sub_succ (toNat_lt ha)]
    by_cases hi : i < 32
    · simp [hi]
    · have : a.toNat.testBit i = false := Nat.testBit_lt_two_pow (Nat.lt_of_lt_of_le (toNat_lt ha) (Nat.pow_le_pow_right (by decide) (by omega)))
      simp [hi, this]
  rw [h]; have := ha.lo; have := ha.hi; omega
include hb
theorem add_sub : aluI 2 (aluI 1 a b) b = a := by rw [aluI_2, aluI_1]; have := ha.lo; have := ha.hi; omega
theorem xor_xor : aluI 8 (aluI 8 a b) b = a := by
  rw [aluI_xor (aluI_u32 8 ha hb) hb, aluI_xor ha hb, Int.toNat_natCast, Nat.xor_assoc, Nat.xor_self, Nat.xor_zero]; have := ha.lo; omega
theorem div_mod : aluI 1 (aluI 3 (aluI 4 a b) b) (aluI 5 a b) = a := by
  have h1 := ha.lo; have h2 := ha.hi; have h3 := hb.lo
  rw [aluI_1, aluI_3, aluI_4, aluI_5]
  split
  · simp; omega
  · have e := Int.mul_ediv_add_emod a b
    have := Int.emod_nonneg a (show b ≠ 0 by omega)
    have h5 : 0 ≤ b * (a / b) := Int.mul_nonneg h3 (Int.ediv_nonneg h1 h3)
    rw [Int.mul_comm (a / b) b, Int.emod_eq_of_lt h5 (by omega)]
    rw [e]; omega
theorem and_or : aluI 1 (aluI 6 a b) (aluI 7 a b) = aluI 1 a b := by
  rw [aluI_1, aluI_1, aluI_and ha hb, aluI_or ha hb]
  have key : ∀ x y : Nat, (x &&& y) + (x ||| y) = x + y := by
    intro x
    induction x using Nat.strongRecOn with
    | _ x ih =>
      intro y
      rcases Nat.eq_zero_or_pos x with h | h
      · subst h; simp
      · have := ih (x / 2) (by omega) (y / 2)
        have e1 := Nat.div_add_mod (x &&& y) 2
        have e2 := Nat.div_add_mod (x ||| y) 2
        rw [Nat.and_div_two] at e1
        rw [Nat.or_div_two] at e2
        have m1 : (x &&& y) % 2 = (x % 2) * (y % 2) := by
          have h := Nat.and_mod_two_pow (a := x) (b := y) (n := 1)
          rw [Nat.pow_one] at h
          rw [h]
          rcases Nat.mod_two_eq_zero_or_one x with p | p <;> rcases Nat.mod_two_eq_zero_or_one y with q | q <;> simp [p, q]
        have m2 : (x ||| y) % 2 = (x % 2) + (y % 2) - (x % 2) * (y % 2) := by
          have h := Nat.or_mod_two_pow (a := x) (b := y) (n := 1)
          rw [Nat.pow_one] at h
          rw [h]
          rcases Nat.mod_two_eq_zero_or_one x with p | p <;> rcases Nat.mod_two_eq_zero_or_one y with q | q <;> simp [p, q]
        rcases Nat.mod_two_eq_zero_or_one x with p | p <;> rcases Nat.mod_two_eq_zero_or_one y with q | q <;> simp only [p, q] at m1 m2 <;> omega
  have := key a.toNat b.toNat
  have := ha.lo; have := hb.lo
  congr 1
  omega
theorem comm_all (op : Int) (h : op = 1 ∨ op = 3 ∨ op = 6 ∨ op = 7 ∨ op = 8) : aluI op a b = aluI op b a := by
  rcases h with rfl | rfl | rfl | rfl | rfl
  · rw [aluI_1, aluI_1, Int.add_comm]
  · rw [aluI_3, aluI_3, Int.mul_comm]
  · rw [aluI_and ha hb, aluI_and hb ha, Nat.and_comm]
  · rw [aluI_or ha hb, aluI_or hb ha, Nat.or_comm]
  · rw [aluI_xor ha hb, aluI_xor hb ha, Nat.xor_comm]
theorem div_le : aluI 4 a b ≤ a := by
  rw [aluI_4]; split
  · exact ha.lo
  · exact Int.ediv_le_self b ha.lo
theorem and_le : aluI 6 a b ≤ a ∧ aluI 6 a b ≤ b := by
  rw [aluI_and ha hb]
  have h1 := @Nat.and_le_left a.toNat b.toNat
  have h2 := @Nat.and_le_right a.toNat b.toNat
  have := ha.lo; have := hb.lo
  exact ⟨by omega, by omega⟩
theorem or_ge : a ≤ aluI 7 a b ∧ b ≤ aluI 7 a b := by
  rw [aluI_or ha hb]
  have h1 := @Nat.left_le_or a.toNat b.toNat
  have h2 := @Nat.right_le_or a.toNat b.toNat
  have := ha.lo; have := hb.lo
  exact ⟨by omega, by omega⟩
theorem shr_le : aluI 10 a b ≤ a := by rw [aluI_10]; exact Int.ediv_le_self _ ha.lo
theorem mod_lt (h : b ≠ 0) : aluI 5 a b < b := by
  rw [aluI_5, if_neg h]; exact Int.emod_lt_of_pos a (by have := hb.lo; omega)
theorem mod_le : aluI 5 a b ≤ a := by
  rw [aluI_5]; split
  · exact Int.le_refl _
  · have h3 := hb.lo
    have h5 : 0 ≤ b * (a / b) := Int.mul_nonneg h3 (Int.ediv_nonneg ha.lo h3)
    have := Int.mul_ediv_add_emod a b
    omega
theorem shl_mul : aluI 9 a b = aluI 3 a (aluI 9 1 b) := by
  rw [aluI_9, aluI_3, aluI_9, Int.one_mul, mulmod_r]
omit ha in
theorem pow_lt : (2 : Int) ^ (b % 32).toNat < 4294967296 := by
  have h : (b % 32).toNat ≤ 31 := by omega
  have : (2 : Nat) ^ (b % 32).toNat ≤ 2 ^ 31 := Nat.pow_le_pow_right (by decide) h
  have e : ((2 ^ (b % 32).toNat : Nat) : Int) = (2 : Int) ^ (b % 32).toNat := by simp
  omega
omit ha in
theorem shl_one : aluI 9 1 b = 2 ^ (b % 32).toNat := by
  rw [aluI_9, Int.one_mul]
  exact Int.emod_eq_of_lt (Int.le_of_lt (Int.pow_pos (by decide))) (pow_lt hb)
theorem shr_div : aluI 10 a b = aluI 4 a (aluI 9 1 b) := by
  have hp : (0 : Int) < 2 ^ (b % 32).toNat := Int.pow_pos (by decide)
  rw [shl_one hb, aluI_10, aluI_4, if_neg (by omega)]
include hc
theorem assoc_all (op : Int) (h : op = 1 ∨ op = 3 ∨ op = 6 ∨ op = 7 ∨ op = 8) : aluI op (aluI op a b) c = aluI op a (aluI op b c) := by
  rcases h with rfl | rfl | rfl | rfl | rfl
  · simp only [aluI_1]; omega
  · simp only [aluI_3]; rw [mulmod_l, mulmod_r, Int.mul_assoc]
  · rw [aluI_and (aluI_u32 6 ha hb) hc, aluI_and ha (aluI_u32 6 hb hc), aluI_and ha hb, aluI_and hb hc, Int.toNat_natCast, Int.toNat_natCast, Nat.and_assoc]
  · rw [aluI_or (aluI_u32 7 ha hb) hc, aluI_or ha (aluI_u32 7 hb hc), aluI_or ha hb, aluI_or hb hc, Int.toNat_natCast, Int.toNat_natCast, Nat.or_assoc]
  · rw [aluI_xor (aluI_u32 8 ha hb) hc, aluI_xor ha (aluI_u32 8 hb hc), aluI_xor ha hb, aluI_xor hb hc, Int.toNat_natCast, Int.toNat_natCast, Nat.xor_assoc]
theorem distrib : aluI 3 a (aluI 1 b c) = aluI 1 (aluI 3 a b) (aluI 3 a c) := by
  simp only [aluI_3, aluI_1]
  rw [mulmod_r, Int.mul_add, ← Int.add_emod]
end
theorem shl_more (a n : Int) (h : 0 ≤ n) : aluI 9 a (n + 32) = aluI 9 a n := by
  rw [aluI_9, aluI_9, show (n + 32) % 32 = n % 32 from by omega]
end Go.Proofs.YtebdnobgdimdoaaGreat
set_option linter.unusedVariables false
set_option linter.unusedSimpArgs false
namespace Go.Proofs.YtebdnobgdimdoaaGreat
open Go.RowKit
attribute [local go_sem] max2_nat min2_nat bmax_two bmin_two
/-- What bounds come to. -/
def aluS (op : Nat) (l1 h1 l2 h2 : Nat) : Nat × Nat :=
  match op with
  | 0 => (l2, h2)
  | 1 => fitS (l1 + l2) (h1 + h2)
  | 2 => if l1 < h2 then (0, 4294967295) else (l1 - h2, h1 - l2)
  | 3 => fitS (l1 * l2) (h1 * h2)
  | 4 => if l2 = 0 then (0, h1) else (l1 / h2, h1 / l2)
  | 5 => if h1 < l2 then (l1, h1) else if l2 = 0 then (0, h1) else (0, nmin h1 (h2 - 1))
  | 6 => (0, nmin h1 h2)
  | 7 => (nmax l1 l2, powS h1 h2 - 1)
  | 8 => (0, powS h1 h2 - 1)
  | 9 => if l2 = h2 then fitS (l1 * 2 ^ (l2 % 32)) (h1 * 2 ^ (l2 % 32)) else (0, 4294967295)
  | 10 => if l2 = h2 then (l1 / 2 ^ (l2 % 32), h1 / 2 ^ (l2 % 32)) else (0, h1)
  | _ => (0, 4294967295)
def brulesV : Array Value := #[Value.func (Fn.func 154) #[] #[], Value.func (Fn.func 155) #[] #[], Value.func (Fn.func 156) #[] #[], Value.func (Fn.func 157) #[] #[], Value.func (Fn.func 158) #[] #[], Value.func (Fn.func 159) #[] #[], Value.func (Fn.func 160) #[] #[], Value.func (Fn.func 161) #[] #[], Value.func (Fn.func 163) #[] #[], Value.func (Fn.func 164) #[] #[], Value.func (Fn.func 165) #[] #[]]
set_option maxHeartbeats 400000 in
theorem brules_any (w : World) :
    Calls Tryz.prog 153 #[] w fun e w' => e = .returned (.agg brulesV) ∧ w.alloc (.cells brulesV 229) = w' := by
  go_enter Tryz.func153, Tryz.ntmps153
  go_wp2
  refine bodyPost_ret (v := .agg brulesV) ?_ rfl ⟨rfl, rfl⟩
  simp [results, Tryz.results153, go_sem, brulesV]
set_option maxHeartbeats 1000000 in
theorem rule0 (l1 h1 l2 h2 : Nat) (w : World) (hl1 : l1 ≤ h1) (hh1 : h1 < 4294967296) (hl2 : l2 ≤ h2) (hh2 : h2 < 4294967296) :
    Calls Tryz.prog 154 #[.agg #[.int .u64 l1, .int .u64 h1], .agg #[.int .u64 l2, .int .u64 h2]] w fun e w' => e = .returned (.agg #[.int .u64 (aluS 0 l1 h1 l2 h2).1, .int .u64 (aluS 0 l1 h1 l2 h2).2]) ∧ Bel w w' := by
  have HB := Bel.refl w
  have E : aluS 0 l1 h1 l2 h2 = (l2, h2) := rfl
  rw [E]
  clear E
  go_enter Tryz.func154, Tryz.ntmps154
  go_wp2
  refine bodyPost_ret (v := .agg #[.int .u64 ((l2 : Nat) : Int), .int .u64 ((h2 : Nat) : Int)]) ?_ rfl ⟨rfl, by repeat (first | (with_reducible exact HB) | apply Bel.alloc | apply Bel.drewN)⟩
  simp [results, Tryz.results154, go_sem]
set_option maxHeartbeats 1000000 in
theorem rule6 (l1 h1 l2 h2 : Nat) (w : World) (hl1 : l1 ≤ h1) (hh1 : h1 < 4294967296) (hl2 : l2 ≤ h2) (hh2 : h2 < 4294967296) :
    Calls Tryz.prog 160 #[.agg #[.int .u64 l1, .int .u64 h1], .agg #[.int .u64 l2, .int .u64 h2]] w fun e w' => e = .returned (.agg #[.int .u64 (aluS 6 l1 h1 l2 h2).1, .int .u64 (aluS 6 l1 h1 l2 h2).2]) ∧ Bel w w' := by
  have HB := Bel.refl w
  have E : aluS 6 l1 h1 l2 h2 = (0, nmin h1 h2) := rfl
  rw [E]
  clear E
  go_enter Tryz.func160, Tryz.ntmps160
  go_wp2
  refine bodyPost_ret (v := .agg #[.int .u64 ((0 : Nat) : Int), .int .u64 ((nmin h1 h2 : Nat) : Int)]) ?_ rfl ⟨rfl, by repeat (first | (with_reducible exact HB) | apply Bel.alloc | apply Bel.drewN)⟩
  simp [results, Tryz.results160, go_sem]
theorem fit_at (lo hi : Nat) (x y : Int) (w : World) (hx : x = lo) (hy : y = hi) (h1 : lo ≤ 18446744073709551615) (h2 : hi ≤ 18446744073709551615) :
    Calls Tryz.prog 152 #[.int .u64 x, .int .u64 y] w fun e w' => e = .returned (.agg #[.int .u64 (fitS lo hi).1, .int .u64 (fitS lo hi).2]) ∧ Bel w w' := by
  subst hx; subst hy
  exact fit_any lo hi w h1 h2
theorem power_still (a b : Nat) (w : World) (ha : a < 4294967296) (hb : b < 4294967296) :
    Calls Tryz.prog 162 #[.int .u64 a, .int .u64 b] w fun e w' => e = .returned (.int .u64 (powS a b : Nat)) ∧ w' = w :=
  (power_loop a b w ha hb).mono fun _ _ ⟨h, k⟩ => ⟨h, k.symm⟩
theorem nsub {a b : Nat} (h : b ≤ a) : (a : Int) - (b : Int) = ((a - b : Nat) : Int) := by omega
theorem wrap_div {a b : Nat} (h : a < 4294967296) : IntKind.u64.wrap ((a : Int) / (b : Int)) = (a : Int) / (b : Int) := by
  have : a / b ≤ a := Nat.div_le_self a b
  have e : (a : Int) / (b : Int) = ((a / b : Nat) : Int) := by simp
  rw [e]
  simp only [IntKind.wrap]; simp only [go_sem]; generalize a / b = q at *; simp; omega
theorem ndiv (a b : Nat) : (a : Int) / (b : Int) = ((a / b : Nat) : Int) := by simp
theorem nmul_le {a b c d : Nat} (h1 : a ≤ c) (h2 : b ≤ d) (hc : c < 4294967296) (hd : d < 4294967296) : a * b ≤ 18446744065119617025 := by
  calc a * b ≤ 4294967295 * 4294967295 := Nat.mul_le_mul (by omega) (by omega)
    _ = 18446744065119617025 := by decide
theorem shl_le {a n : Nat} (h : a < 4294967296) : a * 2 ^ (n % 32) ≤ 9223372036854775807 := by
  have : 2 ^ (n % 32) ≤ 2 ^ 31 := Nat.pow_le_pow_right (by decide) (by omega)
  have := Nat.mul_le_mul (show a ≤ 4294967295 by omega) this
  omega
theorem shl_eq {a n : Nat} (h : a < 4294967296) : (a : Int) * 2 ^ ((n : Int) % 32).toNat % 18446744073709551616 = ((a * 2 ^ (n % 32) : Nat) : Int) := by
  have e : ((n : Int) % 32).toNat = n % 32 := by omega
  have h2 := shl_le (n := n) h
  rw [e]
  have e2 : (a : Int) * 2 ^ (n % 32) = ((a * 2 ^ (n % 32) : Nat) : Int) := by simp
  rw [e2]
  omega
theorem shr_eq (a n : Nat) : (a : Int) / 2 ^ ((n : Int) % 32).toNat = ((a / 2 ^ (n % 32) : Nat) : Int) := by
  have e : ((n : Int) % 32).toNat = n % 32 := by omega
  rw [e]; simp
set_option maxHeartbeats 1000000 in
theorem rule1 (l1 h1 l2 h2 : Nat) (w : World) (hl1 : l1 ≤ h1) (hh1 : h1 < 4294967296) (hl2 : l2 ≤ h2) (hh2 : h2 < 4294967296) :
    Calls Tryz.prog 155 #[.agg #[.int .u64 l1, .int .u64 h1], .agg #[.int .u64 l2, .int .u64 h2]] w fun e w' => e = .returned (.agg #[.int .u64 (aluS 1 l1 h1 l2 h2).1, .int .u64 (aluS 1 l1 h1 l2 h2).2]) ∧ Bel w w' := by
  have HB := Bel.refl w
  have E : aluS 1 l1 h1 l2 h2 = fitS (l1 + l2) (h1 + h2) := rfl
  rw [E]
  clear E
  have HB := ((HB.alloc (.cells #[.int .u64 l1, .int .u64 h1] 164)).alloc (.cells #[.int .u64 l2, .int .u64 h2] 164))
  go_enter Tryz.func155, Tryz.ntmps155
  go_wp2_with (first | (go_at_call 152; refine (fit_at (l1 + l2) (h1 + h2) _ _ _ (by omega) (by omega) (by omega) (by omega)).mono ?_; rintro e w1 ⟨rfl, hb1⟩; have HB := (HB.alloc _).trans hb1; obtain ⟨hc1, hf1, hs1⟩ := bcell hb1))
  refine bodyPost_ret (v := .agg #[.int .u64 (((fitS (l1 + l2) (h1 + h2)).1 : Nat) : Int), .int .u64 (((fitS (l1 + l2) (h1 + h2)).2 : Nat) : Int)]) ?_ rfl ⟨rfl, by repeat (first | (with_reducible exact HB) | (with_reducible refine Bel.setCell ?_ (by first | (simp; done) | (simp; omega)) _) | apply Bel.alloc | apply Bel.drewN)⟩
  simp [results, Tryz.results155, go_sem, hc1, hf1]
end Go.Proofs.YtebdnobgdimdoaaGreat
set_option linter.unusedVariables false
set_option linter.unusedSimpArgs false
namespace Go.Proofs.YtebdnobgdimdoaaGreat
open Go.RowKit
attribute [local go_sem] max2_nat min2_nat bmax_two bmin_two
set_option maxHeartbeats 1000000 in
theorem rule3 (l1 h1 l2 h2 : Nat) (w : World) (hl1 : l1 ≤ h1) (hh1 : h1 < 4294967296) (hl2 : l2 ≤ h2) (hh2 : h2 < 4294967296) :
    Calls Tryz.prog 157 #[.agg #[.int .u64 l1, .int .u64 h1], .agg #[.int .u64 l2, .int .u64 h2]] w fun e w' => e = .returned (.agg #[.int .u64 (aluS 3 l1 h1 l2 h2).1, .int .u64 (aluS 3 l1 h1 l2 h2).2]) ∧ Bel w w' := by
  have HB := Bel.refl w
  have E : aluS 3 l1 h1 l2 h2 = fitS (l1 * l2) (h1 * h2) := rfl
  rw [E]
  clear E
  have p1 := nmul_le hl1 hl2 hh1 hh2
  have p2 := nmul_le (Nat.le_refl h1) (Nat.le_refl h2) hh1 hh2
  have p3 : (l1 : Int) * (l2 : Int) ≤ 18446744065119617025 := by have := Int.natCast_mul l1 l2; omega
  have p4 : (0 : Int) ≤ (l1 : Int) * (l2 : Int) := by have := Int.natCast_mul l1 l2; omega
  have p5 : (h1 : Int) * (h2 : Int) ≤ 18446744065119617025 := by have := Int.natCast_mul h1 h2; omega
  have p6 : (0 : Int) ≤ (h1 : Int) * (h2 : Int) := by have := Int.natCast_mul h1 h2; omega
  clear p1 p2
  have HB := ((HB.alloc (.cells #[.int .u64 l1, .int .u64 h1] 164)).alloc (.cells #[.int .u64 l2, .int .u64 h2] 164))
  go_enter Tryz.func157, Tryz.ntmps157
  go_wp2_with (first | (go_at_call 152; refine (fit_at (l1 * l2) (h1 * h2) _ _ _ (by rw [Int.natCast_mul]) (by rw [Int.natCast_mul]) (Nat.le_trans (nmul_le hl1 hl2 hh1 hh2) (by decide)) (Nat.le_trans (nmul_le (Nat.le_refl _) (Nat.le_refl _) hh1 hh2) (by decide))).mono ?_; rintro e w1 ⟨rfl, hb1⟩; have HB := (HB.alloc _).trans hb1; obtain ⟨hc1, hf1, hs1⟩ := bcell hb1))
  refine bodyPost_ret (v := .agg #[.int .u64 (((fitS (l1 * l2) (h1 * h2)).1 : Nat) : Int), .int .u64 (((fitS (l1 * l2) (h1 * h2)).2 : Nat) : Int)]) ?_ rfl ⟨rfl, by repeat (first | (with_reducible exact HB) | (with_reducible refine Bel.setCell ?_ (by first | (simp; done) | (simp; omega)) _) | apply Bel.alloc | apply Bel.drewN)⟩
  simp [results, Tryz.results157, go_sem, hc1, hf1]
set_option maxHeartbeats 1000000 in
theorem rule2 (l1 h1 l2 h2 : Nat) (w : World) (hl1 : l1 ≤ h1) (hh1 : h1 < 4294967296) (hl2 : l2 ≤ h2) (hh2 : h2 < 4294967296) :
    Calls Tryz.prog 156 #[.agg #[.int .u64 l1, .int .u64 h1], .agg #[.int .u64 l2, .int .u64 h2]] w fun e w' => e = .returned (.agg #[.int .u64 (aluS 2 l1 h1 l2 h2).1, .int .u64 (aluS 2 l1 h1 l2 h2).2]) ∧ Bel w w' := by
  have HB := Bel.refl w
  by_cases c : l1 < h2
  · have c' : (l1 : Int) < (h2 : Int) := by omega
    have E : aluS 2 l1 h1 l2 h2 = (0, 4294967295) := if_pos c
    rw [E]
    clear E
    clear c
    have HB := ((HB.alloc (.cells #[.int .u64 l1, .int .u64 h1] 164)).alloc (.cells #[.int .u64 l2, .int .u64 h2] 164))
    go_enter Tryz.func156, Tryz.ntmps156
    go_wp2_with (first | (go_at_call 152; refine (fit_at 1 0 _ _ _ (by rfl) (by rfl) (by omega) (by omega)).mono ?_; rintro e w1 ⟨rfl, hb1⟩; have HB := (HB.alloc _).trans hb1; obtain ⟨hc1, hf1, hs1⟩ := bcell hb1))
    refine bodyPost_ret (v := .agg #[.int .u64 (((fitS 1 0).1 : Nat) : Int), .int .u64 (((fitS 1 0).2 : Nat) : Int)]) ?_ rfl ⟨rfl, by repeat (first | (with_reducible exact HB) | (with_reducible refine Bel.setCell ?_ (by first | (simp; done) | (simp; omega)) _) | apply Bel.alloc | apply Bel.drewN)⟩
    simp [results, Tryz.results156, go_sem, hc1, hf1]
  · have c' : ¬ (l1 : Int) < (h2 : Int) := by omega
    have n1 : (l1 : Int) - (h2 : Int) = ((l1 - h2 : Nat) : Int) := nsub (by omega)
    have n2 : (h1 : Int) - (l2 : Int) = ((h1 - l2 : Nat) : Int) := nsub (by omega)
    have E : aluS 2 l1 h1 l2 h2 = (l1 - h2, h1 - l2) := if_neg c
    rw [E]
    clear E
    clear c
    go_enter Tryz.func156, Tryz.ntmps156
    go_wp2
    refine bodyPost_ret (v := .agg #[.int .u64 ((l1 - h2 : Nat) : Int), .int .u64 ((h1 - l2 : Nat) : Int)]) ?_ rfl ⟨rfl, by repeat (first | (with_reducible exact HB) | apply Bel.alloc | apply Bel.drewN)⟩
    simp [results, Tryz.results156, go_sem]
set_option maxHeartbeats 1000000 in
theorem rule4 (l1 h1 l2 h2 : Nat) (w : World) (hl1 : l1 ≤ h1) (hh1 : h1 < 4294967296) (hl2 : l2 ≤ h2) (hh2 : h2 < 4294967296) :
    Calls Tryz.prog 158 #[.agg #[.int .u64 l1, .int .u64 h1], .agg #[.int .u64 l2, .int .u64 h2]] w fun e w' => e = .returned (.agg #[.int .u64 (aluS 4 l1 h1 l2 h2).1, .int .u64 (aluS 4 l1 h1 l2 h2).2]) ∧ Bel w w' := by
  have HB := Bel.refl w
  by_cases c : l2 = 0
  · subst c
    have E : aluS 4 l1 h1 0 h2 = (0, h1) := by simp [aluS]
    rw [E]
    clear E
    go_enter Tryz.func158, Tryz.ntmps158
    go_wp2
    refine bodyPost_ret (v := .agg #[.int .u64 ((0 : Nat) : Int), .int .u64 ((h1 : Nat) : Int)]) ?_ rfl ⟨rfl, by repeat (first | (with_reducible exact HB) | apply Bel.alloc | apply Bel.drewN)⟩
    simp [results, Tryz.results158, go_sem]
  · have c' : ((l2 : Int) == 0) = false := by simp [c]
    have p1 : (0 : Int) < (l2 : Int) := by omega
    have p2 : (0 : Int) < (h2 : Int) := by omega
    have q1 : ¬ h2 = 0 := by omega
    have q2 : ¬ l2 = 0 := by omega
    have q3 : ((h2 : Int) == 0) = false := by simp [q1]
    have n8 : IntKind.u64.wrap ((l1 : Int) / (h2 : Int)) = (l1 : Int) / (h2 : Int) := wrap_div (by omega)
    have n9 : IntKind.u64.wrap ((h1 : Int) / (l2 : Int)) = (h1 : Int) / (l2 : Int) := wrap_div hh1
    have E : aluS 4 l1 h1 l2 h2 = (l1 / h2, h1 / l2) := if_neg c
    rw [E]
    clear E
    clear c
    go_enter Tryz.func158, Tryz.ntmps158
    go_wp2
    go_region_held3 (fun w' => w'.cell? ⟨w.heap.size, 0, none⟩ = some (.int .u64 l1) ∧ w'.cell? ⟨w.heap.size, 1, none⟩ = some (.int .u64 h1) ∧ w'.cell? ⟨w.heap.size + 1, 0, none⟩ = some (.int .u64 l2) ∧ w'.cell? ⟨w.heap.size + 1, 1, none⟩ = some (.int .u64 h2)) (go_keep) (first | fail)
    all_goals go_wp2
    all_goals (refine bodyPost_ret (v := .agg #[.int .u64 ((l1 / h2 : Nat) : Int), .int .u64 ((h1 / l2 : Nat) : Int)]) ?_ rfl ⟨rfl, by repeat (first | (with_reducible exact HB) | apply Bel.alloc | apply Bel.drew | apply Bel.drewN)⟩)
    all_goals (simp [results, Tryz.results158, go_sem, *])
set_option maxHeartbeats 1000000 in
theorem rule5 (l1 h1 l2 h2 : Nat) (w : World) (hl1 : l1 ≤ h1) (hh1 : h1 < 4294967296) (hl2 : l2 ≤ h2) (hh2 : h2 < 4294967296) :
    Calls Tryz.prog 159 #[.agg #[.int .u64 l1, .int .u64 h1], .agg #[.int .u64 l2, .int .u64 h2]] w fun e w' => e = .returned (.agg #[.int .u64 (aluS 5 l1 h1 l2 h2).1, .int .u64 (aluS 5 l1 h1 l2 h2).2]) ∧ Bel w w' := by
  have HB := Bel.refl w
  by_cases c : h1 < l2
  · have c' : (h1 : Int) < (l2 : Int) := by omega
    have E : aluS 5 l1 h1 l2 h2 = (l1, h1) := if_pos c
    rw [E]
    clear E
    clear c
    go_enter Tryz.func159, Tryz.ntmps159
    go_wp2
    refine bodyPost_ret (v := .agg #[.int .u64 ((l1 : Nat) : Int), .int .u64 ((h1 : Nat) : Int)]) ?_ rfl ⟨rfl, by repeat (first | (with_reducible exact HB) | apply Bel.alloc | apply Bel.drewN)⟩
    simp [results, Tryz.results159, go_sem]
  · have c' : ¬ (h1 : Int) < (l2 : Int) := by omega
    by_cases d : l2 = 0
    · subst d
      have E : aluS 5 l1 h1 0 h2 = (0, h1) := by simp [aluS]
      rw [E]
      clear E
      clear c
      go_enter Tryz.func159, Tryz.ntmps159
      go_wp2
      refine bodyPost_ret (v := .agg #[.int .u64 ((0 : Nat) : Int), .int .u64 ((h1 : Nat) : Int)]) ?_ rfl ⟨rfl, by repeat (first | (with_reducible exact HB) | apply Bel.alloc | apply Bel.drewN)⟩
      simp [results, Tryz.results159, go_sem]
    · have d' : ((l2 : Int) == 0) = false := by simp [d]
      have n1 : (h2 : Int) - 1 = ((h2 - 1 : Nat) : Int) := by omega
      have E : aluS 5 l1 h1 l2 h2 = (0, nmin h1 (h2 - 1)) := by simp [aluS, c, d]
      rw [E]
      clear E
      clear c d
      go_enter Tryz.func159, Tryz.ntmps159
      go_wp2
      refine bodyPost_ret (v := .agg #[.int .u64 ((0 : Nat) : Int), .int .u64 ((nmin h1 (h2 - 1) : Nat) : Int)]) ?_ rfl ⟨rfl, by repeat (first | (with_reducible exact HB) | apply Bel.alloc | apply Bel.drewN)⟩
      simp [results, Tryz.results159, go_sem]
set_option maxHeartbeats 1000000 in
theorem rule7 (l1 h1 l2 h2 : Nat) (w : World) (hl1 : l1 ≤ h1) (hh1 : h1 < 4294967296) (hl2 : l2 ≤ h2) (hh2 : h2 < 4294967296) :
    Calls Tryz.prog 161 #[.agg #[.int .u64 l1, .int .u64 h1], .agg #[.int .u64 l2, .int .u64 h2]] w fun e w' => e = .returned (.agg #[.int .u64 (aluS 7 l1 h1 l2 h2).1, .int .u64 (aluS 7 l1 h1 l2 h2).2]) ∧ Bel w w' := by
  have HB := Bel.refl w
  have E : aluS 7 l1 h1 l2 h2 = (nmax l1 l2, powS h1 h2 - 1) := rfl
  rw [E]
  clear E
  have n1 : ((powS h1 h2 : Nat) : Int) - 1 = ((powS h1 h2 - 1 : Nat) : Int) := by have := powS_one h1 h2; omega
  have n2 := powS_one h1 h2
  have n9 : IntKind.u64.wrap ((powS h1 h2 - 1 : Nat) : Int) = ((powS h1 h2 - 1 : Nat) : Int) := by have := powS_le hh1 hh2; simp only [IntKind.wrap]; simp [go_sem]; omega
  have n3 := powS_le hh1 hh2
  go_enter Tryz.func161, Tryz.ntmps161
  go_wp2
  go_region_held3 (fun w' => w'.cell? ⟨w.heap.size, 0, none⟩ = some (.int .u64 l1) ∧ w'.cell? ⟨w.heap.size, 1, none⟩ = some (.int .u64 h1) ∧ w'.cell? ⟨w.heap.size + 1, 0, none⟩ = some (.int .u64 l2) ∧ w'.cell? ⟨w.heap.size + 1, 1, none⟩ = some (.int .u64 h2)) (go_keep) (first | (go_at_call 162; refine (power_loop _ _ _ (by omega) (by omega)).mono ?_; rintro e w1 ⟨rfl, rfl⟩))
  all_goals go_wp2
  all_goals (refine bodyPost_ret (v := .agg #[.int .u64 ((nmax l1 l2 : Nat) : Int), .int .u64 ((powS h1 h2 - 1 : Nat) : Int)]) ?_ rfl ⟨rfl, by repeat (first | (with_reducible exact HB) | apply Bel.alloc | apply Bel.drew | apply Bel.drewN)⟩)
  all_goals (simp [results, Tryz.results161, go_sem, *])
set_option maxHeartbeats 1000000 in
theorem rule8 (l1 h1 l2 h2 : Nat) (w : World) (hl1 : l1 ≤ h1) (hh1 : h1 < 4294967296) (hl2 : l2 ≤ h2) (hh2 : h2 < 4294967296) :
    Calls Tryz.prog 163 #[.agg #[.int .u64 l1, .int .u64 h1], .agg #[.int .u64 l2, .int .u64 h2]] w fun e w' => e = .returned (.agg #[.int .u64 (aluS 8 l1 h1 l2 h2).1, .int .u64 (aluS 8 l1 h1 l2 h2).2]) ∧ Bel w w' := by
  have HB := Bel.refl w
  have E : aluS 8 l1 h1 l2 h2 = (0, powS h1 h2 - 1) := rfl
  rw [E]
  clear E
  have n1 : ((powS h1 h2 : Nat) : Int) - 1 = ((powS h1 h2 - 1 : Nat) : Int) := by have := powS_one h1 h2; omega
  have n2 := powS_one h1 h2
  have n9 : IntKind.u64.wrap ((powS h1 h2 - 1 : Nat) : Int) = ((powS h1 h2 - 1 : Nat) : Int) := by have := powS_le hh1 hh2; simp only [IntKind.wrap]; simp [go_sem]; omega
  have n3 := powS_le hh1 hh2
  go_enter Tryz.func163, Tryz.ntmps163
  go_wp2_with (first | (go_at_call 162; refine (power_loop _ _ _ (by omega) (by omega)).mono ?_; rintro e w1 ⟨rfl, rfl⟩))
  refine bodyPost_ret (v := .agg #[.int .u64 ((0 : Nat) : Int), .int .u64 ((powS h1 h2 - 1 : Nat) : Int)]) ?_ rfl ⟨rfl, by repeat (first | (with_reducible exact HB) | apply Bel.alloc | apply Bel.drewN)⟩
  simp [results, Tryz.results163, go_sem]
set_option maxHeartbeats 1000000 in
theorem rule9 (l1 h1 l2 h2 : Nat) (w : World) (hl1 : l1 ≤ h1) (hh1 : h1 < 4294967296) (hl2 : l2 ≤ h2) (hh2 : h2 < 4294967296) :
    Calls Tryz.prog 164 #[.agg #[.int .u64 l1, .int .u64 h1], .agg #[.int .u64 l2, .int .u64 h2]] w fun e w' => e = .returned (.agg #[.int .u64 (aluS 9 l1 h1 l2 h2).1, .int .u64 (aluS 9 l1 h1 l2 h2).2]) ∧ Bel w w' := by
  have HB := Bel.refl w
  by_cases c : l2 = h2
  · subst c
    have E : aluS 9 l1 h1 l2 l2 = fitS (l1 * 2 ^ (l2 % 32)) (h1 * 2 ^ (l2 % 32)) := if_pos rfl
    rw [E]
    clear E
    have HB := ((HB.alloc (.cells #[.int .u64 l1, .int .u64 h1] 164)).alloc (.cells #[.int .u64 l2, .int .u64 l2] 164))
    go_enter Tryz.func164, Tryz.ntmps164
    go_wp2_with (first | (go_at_call 152; refine (fit_at (l1 * 2 ^ (l2 % 32)) (h1 * 2 ^ (l2 % 32)) _ _ _ (shl_eq (by omega)) (shl_eq (by omega)) (Nat.le_trans (shl_le (by omega)) (by decide)) (Nat.le_trans (shl_le (by omega)) (by decide))).mono ?_; rintro e w1 ⟨rfl, hb1⟩; have HB := (HB.alloc _).trans hb1; obtain ⟨hc1, hf1, hs1⟩ := bcell hb1))
    refine bodyPost_ret (v := .agg #[.int .u64 (((fitS (l1 * 2 ^ (l2 % 32)) (h1 * 2 ^ (l2 % 32))).1 : Nat) : Int), .int .u64 (((fitS (l1 * 2 ^ (l2 % 32)) (h1 * 2 ^ (l2 % 32))).2 : Nat) : Int)]) ?_ rfl ⟨rfl, by repeat (first | (with_reducible exact HB) | (with_reducible refine Bel.setCell ?_ (by first | (simp; done) | (simp; omega)) _) | apply Bel.alloc | apply Bel.drewN)⟩
    simp [results, Tryz.results164, go_sem, hc1, hf1]
  · have c' : ((l2 : Int) != (h2 : Int)) = true := by rw [bne_iff_ne]; omega
    have E : aluS 9 l1 h1 l2 h2 = (0, 4294967295) := if_neg c
    rw [E]
    clear E
    clear c
    have HB := ((HB.alloc (.cells #[.int .u64 l1, .int .u64 h1] 164)).alloc (.cells #[.int .u64 l2, .int .u64 h2] 164))
    go_enter Tryz.func164, Tryz.ntmps164
    go_wp2_with (first | (go_at_call 152; refine (fit_at 1 0 _ _ _ (by rfl) (by rfl) (by omega) (by omega)).mono ?_; rintro e w1 ⟨rfl, hb1⟩; have HB := (HB.alloc _).trans hb1; obtain ⟨hc1, hf1, hs1⟩ := bcell hb1))
    refine bodyPost_ret (v := .agg #[.int .u64 (((fitS 1 0).1 : Nat) : Int), .int .u64 (((fitS 1 0).2 : Nat) : Int)]) ?_ rfl ⟨rfl, by repeat (first | (with_reducible exact HB) | (with_reducible refine Bel.setCell ?_ (by first | (simp; done) | (simp; omega)) _) | apply Bel.alloc | apply Bel.drewN)⟩
    simp [results, Tryz.results164, go_sem, hc1, hf1]
set_option maxHeartbeats 1000000 in
theorem rule10 (l1 h1 l2 h2 : Nat) (w : World) (hl1 : l1 ≤ h1) (hh1 : h1 < 4294967296) (hl2 : l2 ≤ h2) (hh2 : h2 < 4294967296) :
    Calls Tryz.prog 165 #[.agg #[.int .u64 l1, .int .u64 h1], .agg #[.int .u64 l2, .int .u64 h2]] w fun e w' => e = .returned (.agg #[.int .u64 (aluS 10 l1 h1 l2 h2).1, .int .u64 (aluS 10 l1 h1 l2 h2).2]) ∧ Bel w w' := by
  have HB := Bel.refl w
  by_cases c : l2 = h2
  · subst c
    have n1 := shr_eq l1 l2
    have n2 := shr_eq h1 l2
    have E : aluS 10 l1 h1 l2 l2 = (l1 / 2 ^ (l2 % 32), h1 / 2 ^ (l2 % 32)) := if_pos rfl
    rw [E]
    clear E
    go_enter Tryz.func165, Tryz.ntmps165
    go_wp2
    refine bodyPost_ret (v := .agg #[.int .u64 ((l1 / 2 ^ (l2 % 32) : Nat) : Int), .int .u64 ((h1 / 2 ^ (l2 % 32) : Nat) : Int)]) ?_ rfl ⟨rfl, by repeat (first | (with_reducible exact HB) | apply Bel.alloc | apply Bel.drewN)⟩
    simp [results, Tryz.results165, go_sem]
  · have c' : ((l2 : Int) != (h2 : Int)) = true := by rw [bne_iff_ne]; omega
    have E : aluS 10 l1 h1 l2 h2 = (0, h1) := if_neg c
    rw [E]
    clear E
    clear c
    go_enter Tryz.func165, Tryz.ntmps165
    go_wp2
    refine bodyPost_ret (v := .agg #[.int .u64 ((0 : Nat) : Int), .int .u64 ((h1 : Nat) : Int)]) ?_ rfl ⟨rfl, by repeat (first | (with_reducible exact HB) | apply Bel.alloc | apply Bel.drewN)⟩
    simp [results, Tryz.results165, go_sem]
end Go.Proofs.YtebdnobgdimdoaaGreat
