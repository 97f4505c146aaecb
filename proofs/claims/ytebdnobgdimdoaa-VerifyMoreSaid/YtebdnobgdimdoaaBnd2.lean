/- The simple functions of bounds, at bounds that may be. -/
import Derived.Test.YtebdnobgdimdoaaProg
import Derived.Test.YtebdnobgdimdoaaKit
import Derived.Test.YtebdnobgdimdoaaFloat
import Derived.KernelRfl
import Derived.WalkLawsBesides
import Derived.WalkSpells
import Derived.Outline
import Derived.Lib.Hide
import Derived.BigQuiet
import Derived.Deep.QuietTactic
set_option linter.unusedVariables false
set_option linter.unusedSimpArgs false
namespace Go.Proofs.Ytebdnobgdimdoaa
open Go.RowKit

theorem fl_int (n : Nat) : floatOfInt .f64 (n : Int) = fl n := by
  unfold floatOfInt FloatKind.nearest
  have : decide ((n : Int) < 0) = false := by simp
  simp [fl, FloatKind.encode, FloatKind.format, this]
theorem fl_last : fl 4294967295 = 4751297606873776128 := by decide +kernel
theorem ord {a b : Nat} (ha : a < 4294967296) (hb : b < 4294967296) : FloatKind.f64.format.order (fl a) (fl b) = some (compare a b) := order_fl (by omega) (by omega)
theorem ord_le {a b : Nat} (ha : a < 4294967296) (hb : b < 4294967296) (h : a ≤ b) : (FloatKind.f64.format.order (fl a) (fl b) == some Ordering.lt || FloatKind.f64.format.order (fl a) (fl b) == some Ordering.eq) = true := by
  rw [ord ha hb]
  rcases Nat.lt_or_eq_of_le h with h | h
  · rw [Nat.compare_eq_lt.2 h]; rfl
  · rw [Nat.compare_eq_eq.2 h]; rfl
theorem ord_ge0 {a : Nat} (ha : a < 4294967296) : (FloatKind.f64.format.order (fl a) 0 == some Ordering.gt || FloatKind.f64.format.order (fl a) 0 == some Ordering.eq) = true := by
  have := ord ha (b := 0) (by decide)
  rw [fl_zero] at this
  rw [this]
  rcases Nat.eq_zero_or_pos a with h | h
  · rw [Nat.compare_eq_eq.2 h]; rfl
  · rw [Nat.compare_eq_gt.2 h]; rfl
theorem ord_last {a : Nat} (ha : a < 4294967296) : (FloatKind.f64.format.order (fl a) 4751297606873776128 == some Ordering.lt || FloatKind.f64.format.order (fl a) 4751297606873776128 == some Ordering.eq) = true := by
  rw [← fl_last]; exact ord_le ha (by decide) (by omega)
theorem ord_same {a : Nat} (ha : a < 4294967296) : FloatKind.f64.format.order (fl a) (fl a) = some Ordering.eq := by rw [ord ha ha]; simp
theorem fl_inj {a b : Nat} (ha : a < 4294967296) (hb : b < 4294967296) (h : fl a = fl b) : a = b := by
  have := ord ha hb
  rw [h, ord_same hb] at this
  simp at this
  exact Nat.compare_eq_eq.1 this.symm
theorem conv_fl (n : Nat) (hn : n < 4294967296) : ∀ w, (convert 177 91 (.float .f64 (fl n))).run Try.prog w = .ok (.int .u64 n) w := by
  intro w
  refine run_convert_float_int w 177 91 .f64 .u64 (fl n) n (by kernel_rfl) Try.underlying91 ?_
  unfold floatToIntVal
  have : FloatKind.f64.decode (fl n) = Ieee.double.read (fl n) := rfl
  rw [this, toInt_fl (by omega)]
  simp [IntKind.min, IntKind.max, IntKind.bits, IntKind.signed]
  omega
set_option maxHeartbeats 400000 in
theorem word_any (n : Nat) (w : World) (hn : n < 4294967296) :
    Calls Try.prog 112 #[.float .f64 (fl n)] w fun e w' => e = .returned (.bool true) ∧ w = w' := by
  have o1 := ord_ge0 hn
  have o2 := ord_last hn
  have o3 := ord_same hn
  have c1 := conv_fl n hn
  have c2 := fl_int n
  go_enter Try.func112, Try.ntmps112
  go_wp2
  go_ret
  exact ⟨by simp, rfl⟩
set_option maxHeartbeats 400000 in
theorem bmay_any (l h : Nat) (w : World) (hl : l ≤ h) (hh : h < 4294967296) :
    Calls Try.prog 91 #[.complex .f64 (fl l) (fl h)] w fun e w' => e = .returned (.bool true) ∧ w = w' := by
  have o1 := ord_le (by omega) hh hl
  go_enter Try.func91, Try.ntmps91
  go_wp2_with (first | (go_at_call 112; refine (word_any _ _ (by omega)).mono ?_; rintro e w1 ⟨rfl, rfl⟩))
  go_ret
  exact ⟨by simp, rfl⟩
set_option maxHeartbeats 400000 in
theorem told_any (l h : Nat) (w : World) :
    Calls Try.prog 90 #[.agg #[.int .u64 l, .int .u64 h]] w fun e w' => e = .returned (.complex .f64 (fl l) (fl h)) ∧ Bel w w' := by
  have c1 := fl_int l
  have c2 := fl_int h
  go_enter Try.func90, Try.ntmps90
  go_wp2
  go_ret
  exact ⟨by simp, (Bel.refl _).alloc _⟩
set_option maxHeartbeats 400000 in
theorem of_any (l h : Nat) (w : World) (hl : l ≤ h) (hh : h < 4294967296) :
    Calls Try.prog 93 #[.complex .f64 (fl l) (fl h)] w fun e w' => e = .returned (.agg #[.int .u64 l, .int .u64 h]) ∧ w.alloc (.cells #[.int .u64 l, .int .u64 h] 153) = w' := by
  have c1 := conv_fl l (by omega)
  have c2 := conv_fl h hh
  go_enter Try.func93, Try.ntmps93
  go_wp2_with (first | (go_at_call 91; refine (bmay_any _ _ _ hl hh).mono ?_; rintro e w1 ⟨rfl, rfl⟩))
  refine bodyPost_ret (v := .agg #[.int .u64 l, .int .u64 h]) ?_ rfl ⟨rfl, rfl⟩
  simp [results, Try.results93, go_sem]
set_option maxHeartbeats 400000 in
theorem Of_any (a b : Nat) (w : World) (ha : a < 4294967296) (hb : b < 4294967296) :
    Calls Try.prog 60 #[.int .u32 a, .int .u32 b] w fun e w' => e = .returned (.complex .f64 (fl (min a b)) (fl (max a b))) ∧ Bel w w' := by
  rcases Nat.lt_trichotomy a b with h | h | h
  · rw [Nat.min_eq_left (by omega), Nat.max_eq_right (by omega)]
    have h1 : (a : Int) < (b : Int) := by omega
    have h2 : ¬ (b : Int) < (a : Int) := by omega
    go_enter Try.func60, Try.ntmps60
    go_wp2_with (first | (go_at_call 90; refine (told_any a b _).mono ?_; rintro e w1 ⟨rfl, hb1⟩))
    go_ret
    exact ⟨by simp, hb1⟩
  · subst h
    rw [Nat.min_self, Nat.max_self]
    go_enter Try.func60, Try.ntmps60
    go_wp2_with (first | (go_at_call 90; refine (told_any a a _).mono ?_; rintro e w1 ⟨rfl, hb1⟩))
    go_ret
    exact ⟨by simp, hb1⟩
  · rw [Nat.min_eq_right (by omega), Nat.max_eq_left (by omega)]
    have h1 : (b : Int) < (a : Int) := by omega
    have h2 : ¬ (a : Int) < (b : Int) := by omega
    go_enter Try.func60, Try.ntmps60
    go_wp2_with (first | (go_at_call 90; refine (told_any b a _).mono ?_; rintro e w1 ⟨rfl, hb1⟩))
    go_ret
    exact ⟨by simp, hb1⟩
end Go.Proofs.Ytebdnobgdimdoaa
