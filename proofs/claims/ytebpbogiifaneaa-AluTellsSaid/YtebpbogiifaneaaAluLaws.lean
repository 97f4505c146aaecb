/- The walks of chapter 1's laws: each comes to 'true'. -/
import Derived.Test.YtebpbogiifaneaaAluCalls
set_option linter.unusedVariables false
set_option linter.unusedSimpArgs false
namespace Go.Proofs.Ytebpbogiifaneaa
open Go.RowKit

theorem awake_1 : (aluI 2 1 2 == 4294967295) = true := by decide
theorem awake_2 : (aluI 9 1 33 == 2) = true := by decide
theorem ok_lit (n : Int) (h : (decide (0 ≤ n) && decide (n < 11)) = true) : aluOk n = true := by simp at h; exact decide_eq_true h
set_option maxHeartbeats 400000 in
theorem awake_any (w : World) : Calls Try.prog 11 #[] w fun e w' => e = .returned (.bool true) ∧ Bel w w' := by
  have f1 := awake_1
  have f2 := awake_2
  have f3 := ok_lit 2 (by decide)
  have f4 := ok_lit 9 (by decide)
  have HB := Bel.refl w
  go_enter Try.func11, Try.ntmps11
  go_wp2_with (first | (go_at_call 13; refine (do_any _ _ _ _ (by repeat (first | assumption | exact u32_lit _ (by decide) | apply aluI_u32)) (by repeat (first | assumption | exact u32_lit _ (by decide) | apply aluI_u32))).mono ?_; rintro e w1 ⟨rfl, hb1⟩; have HB := HB.trans hb1; clear hb1))
  go_ret
  exact ⟨by simp, HB⟩

set_option maxHeartbeats 400000 in
theorem done_any (op a b : Int) (w : World) (ha : U32 a) (hb : U32 b) :
    Calls Try.prog 12 #[.int .i64 op, .int .u32 a, .int .u32 b] w fun e w' => e = .returned (.int .u32 (aluI op a b)) ∧ Bel w w' := by
  have HB := Bel.refl w
  go_enter Try.func12, Try.ntmps12
  go_wp2_with (first | (go_at_call 13; refine (do_any _ _ _ _ (by repeat (first | assumption | exact u32_lit _ (by decide) | apply aluI_u32)) (by repeat (first | assumption | exact u32_lit _ (by decide) | apply aluI_u32))).mono ?_; rintro e w1 ⟨rfl, hb1⟩; have HB := HB.trans hb1; clear hb1))
  go_ret
  exact ⟨rfl, HB⟩

set_option maxHeartbeats 4000000 in
set_option maxRecDepth 100000 in
theorem AluBack_walk (a b : Int) (w : World) (wa : (Lit.int .u32 a).wf = true) (wb : (Lit.int .u32 b).wf = true) :
    Calls Try.prog 3 #[.int .u32 a, .int .u32 b] w fun e w' => e = .returned (.bool true) ∧ Bel w w' := by
  have ha := u32_of_wf wa
  have hb := u32_of_wf wb
  have f0 : (aluI 2 (aluI 1 a b) b == a) = true := beq_iff_eq.2 (add_sub ha hb)
  have f1 : (aluI 8 (aluI 8 a b) b == a) = true := beq_iff_eq.2 (xor_xor ha hb)
  have f2 : (aluI 1 (aluI 3 (aluI 4 a b) b) (aluI 5 a b) == a) = true := beq_iff_eq.2 (div_mod ha hb)
  have f3 : (aluI 1 (aluI 6 a b) (aluI 7 a b) == aluI 1 a b) = true := beq_iff_eq.2 (and_or ha hb)
  have f4 : (aluI 0 a b == b) = true := beq_iff_eq.2 (aluI_0 a b)
  clear wa wb
  have HB := Bel.refl w
  go_enter Try.func3, Try.ntmps3
  go_wp2_with (first | (go_at_call 11; refine (awake_any _).mono ?_; rintro e w1 ⟨rfl, hb1⟩; have HB := HB.trans hb1; clear hb1) | (go_at_call 12; refine (done_any _ _ _ _ (by repeat (first | assumption | exact u32_lit _ (by decide) | apply aluI_u32)) (by repeat (first | assumption | exact u32_lit _ (by decide) | apply aluI_u32))).mono ?_; rintro e w1 ⟨rfl, hb1⟩; have HB := HB.trans hb1; clear hb1))
  go_ret
  exact ⟨by first | (simp; done) | (simp; omega), HB⟩

set_option maxHeartbeats 4000000 in
set_option maxRecDepth 100000 in
theorem AluEnds_walk (a : Int) (w : World) (wa : (Lit.int .u32 a).wf = true) :
    Calls Try.prog 6 #[.int .u32 a] w fun e w' => e = .returned (.bool true) ∧ Bel w w' := by
  have ha := u32_of_wf wa
  have f0 : (aluI 4 a 0 == 0) = true := beq_iff_eq.2 (by simp [aluI_4])
  have f1 : (aluI 5 a 0 == a) = true := beq_iff_eq.2 (by simp [aluI_5])
  have f2 : (aluI 9 a 0 == a) = true := beq_iff_eq.2 (by have := ha.lo; have := ha.hi; simp [aluI_9]; omega)
  have f3 : (aluI 10 a 32 == a) = true := beq_iff_eq.2 (by simp [aluI_10])
  have f4 : (aluI 1 a 0 == a) = true := beq_iff_eq.2 (by have := ha.lo; have := ha.hi; simp [aluI_1]; omega)
  have f5 : (aluI 3 a 1 == a) = true := beq_iff_eq.2 (by have := ha.lo; have := ha.hi; simp [aluI_3]; omega)
  have f6 : (aluI 3 a 0 == 0) = true := beq_iff_eq.2 (by simp [aluI_3])
  have f7 : (aluI 8 a a == 0) = true := beq_iff_eq.2 (xor_self ha)
  have f8 : (aluI 6 a a == a) = true := beq_iff_eq.2 (and_self ha)
  have f9 : (aluI 7 a 0 == a) = true := beq_iff_eq.2 (or_zero ha)
  have f10 : (aluI 2 0 a == aluI 1 (aluI 8 a 4294967295) 1) = true := beq_iff_eq.2 (by rw [xor_ones ha, aluI_2, aluI_1]; have := ha.lo; have := ha.hi; omega)
  have f11 : a ≠ 0 → (aluI 4 a a == 1) = true := fun h => beq_iff_eq.2 (by rw [aluI_4, if_neg h, Int.ediv_self h])
  have f12 : a ≠ 0 → (aluI 5 a a == 0) = true := fun h => beq_iff_eq.2 (by rw [aluI_5, if_neg h, Int.emod_self])
  clear wa
  by_cases h0 : a = 0
  · subst h0
    have HB := Bel.refl w
    go_enter Try.func6, Try.ntmps6
    go_wp2_with (first | (go_at_call 11; refine (awake_any _).mono ?_; rintro e w1 ⟨rfl, hb1⟩; have HB := HB.trans hb1; clear hb1) | (go_at_call 12; refine (done_any _ _ _ _ (by repeat (first | assumption | exact u32_lit _ (by decide) | apply aluI_u32)) (by repeat (first | assumption | exact u32_lit _ (by decide) | apply aluI_u32))).mono ?_; rintro e w1 ⟨rfl, hb1⟩; have HB := HB.trans hb1; clear hb1))
    go_ret
    exact ⟨by first | (simp; done) | (simp; omega), HB⟩
  · have g0 : (a == 0) = false := by simp [h0]
    have g1 := f11 h0
    have g2 := f12 h0
    clear f11 f12 h0
    have HB := Bel.refl w
    go_enter Try.func6, Try.ntmps6
    go_wp2_with (first | (go_at_call 11; refine (awake_any _).mono ?_; rintro e w1 ⟨rfl, hb1⟩; have HB := HB.trans hb1; clear hb1) | (go_at_call 12; refine (done_any _ _ _ _ (by repeat (first | assumption | exact u32_lit _ (by decide) | apply aluI_u32)) (by repeat (first | assumption | exact u32_lit _ (by decide) | apply aluI_u32))).mono ?_; rintro e w1 ⟨rfl, hb1⟩; have HB := HB.trans hb1; clear hb1))
    go_ret
    exact ⟨by first | (simp; done) | (simp; omega), HB⟩

set_option maxHeartbeats 4000000 in
set_option maxRecDepth 100000 in
theorem AluShifts_walk (a n : Int) (w : World) (wa : (Lit.int .u32 a).wf = true) (wn : (Lit.int .u32 n).wf = true) :
    Calls Try.prog 5 #[.int .u32 a, .int .u32 n] w fun e w' => e = .returned (.bool true) ∧ Bel w w' := by
  have ha := u32_of_wf wa
  have hn := u32_of_wf wn
  have f0 : (aluI 9 a n == aluI 3 a (aluI 9 1 n)) = true := beq_iff_eq.2 (shl_mul ha hn)
  have f1 : (aluI 10 a n == aluI 4 a (aluI 9 1 n)) = true := beq_iff_eq.2 (shr_div ha hn)
  have f2 : (aluI 9 a (n + 32) == aluI 9 a n) = true := beq_iff_eq.2 (shl_more a n hn.lo)
  have f3 : (aluI 9 1 n != 0) = true := bne_iff_ne.2 (by rw [shl_one hn]; have := Int.pow_pos (n := 2) (m := (n % 32).toNat) (by decide); omega)
  have f4 : 0 ≤ n := hn.lo
  have f5 : n < 4294967296 := hn.hi
  clear wa wn
  by_cases h0 : n > 1000000
  · skip
    have HB := Bel.refl w
    go_enter Try.func5, Try.ntmps5
    go_wp2_with (first | (go_at_call 11; refine (awake_any _).mono ?_; rintro e w1 ⟨rfl, hb1⟩; have HB := HB.trans hb1; clear hb1) | (go_at_call 12; refine (done_any _ _ _ _ (by repeat (first | assumption | exact u32_lit _ (by decide) | apply aluI_u32)) (by repeat (first | assumption | exact u32_lit _ (by decide) | apply aluI_u32))).mono ?_; rintro e w1 ⟨rfl, hb1⟩; have HB := HB.trans hb1; clear hb1))
    go_ret
    exact ⟨by first | (simp; done) | (simp; omega), HB⟩
  · have hn' : U32 (n + 32) := ⟨by omega, by omega⟩
    have HB := Bel.refl w
    go_enter Try.func5, Try.ntmps5
    go_wp2_with (first | (go_at_call 11; refine (awake_any _).mono ?_; rintro e w1 ⟨rfl, hb1⟩; have HB := HB.trans hb1; clear hb1) | (go_at_call 12; refine (done_any _ _ _ _ (by repeat (first | assumption | exact u32_lit _ (by decide) | apply aluI_u32)) (by repeat (first | assumption | exact u32_lit _ (by decide) | apply aluI_u32))).mono ?_; rintro e w1 ⟨rfl, hb1⟩; have HB := HB.trans hb1; clear hb1))
    go_ret
    exact ⟨by first | (simp; done) | (simp; omega), HB⟩

set_option maxHeartbeats 4000000 in
set_option maxRecDepth 100000 in
theorem AluLess_walk (a b : Int) (w : World) (wa : (Lit.int .u32 a).wf = true) (wb : (Lit.int .u32 b).wf = true) :
    Calls Try.prog 7 #[.int .u32 a, .int .u32 b] w fun e w' => e = .returned (.bool true) ∧ Bel w w' := by
  have ha := u32_of_wf wa
  have hb := u32_of_wf wb
  have f0 : aluI 4 a b ≤ a := div_le ha hb
  have f1 : aluI 6 a b ≤ a := (and_le ha hb).1
  have f2 : aluI 6 a b ≤ b := (and_le ha hb).2
  have f3 : aluI 10 a b ≤ a := shr_le ha hb
  have f4 : aluI 5 a b ≤ a := mod_le ha hb
  have f5 : a ≤ aluI 7 a b := (or_ge ha hb).1
  have f6 : b ≤ aluI 7 a b := (or_ge ha hb).2
  have f7 : b ≠ 0 → aluI 5 a b < b := fun h => mod_lt ha hb h
  clear wa wb
  by_cases h0 : b = 0
  · subst h0
    clear f7
    have HB := Bel.refl w
    go_enter Try.func7, Try.ntmps7
    go_wp2_with (first | (go_at_call 11; refine (awake_any _).mono ?_; rintro e w1 ⟨rfl, hb1⟩; have HB := HB.trans hb1; clear hb1) | (go_at_call 12; refine (done_any _ _ _ _ (by repeat (first | assumption | exact u32_lit _ (by decide) | apply aluI_u32)) (by repeat (first | assumption | exact u32_lit _ (by decide) | apply aluI_u32))).mono ?_; rintro e w1 ⟨rfl, hb1⟩; have HB := HB.trans hb1; clear hb1))
    go_ret
    exact ⟨by first | (simp; done) | (simp; omega), HB⟩
  · have g0 : (b == 0) = false := by simp [h0]
    have g1 := f7 h0
    clear f7 h0
    have HB := Bel.refl w
    go_enter Try.func7, Try.ntmps7
    go_wp2_with (first | (go_at_call 11; refine (awake_any _).mono ?_; rintro e w1 ⟨rfl, hb1⟩; have HB := HB.trans hb1; clear hb1) | (go_at_call 12; refine (done_any _ _ _ _ (by repeat (first | assumption | exact u32_lit _ (by decide) | apply aluI_u32)) (by repeat (first | assumption | exact u32_lit _ (by decide) | apply aluI_u32))).mono ?_; rintro e w1 ⟨rfl, hb1⟩; have HB := HB.trans hb1; clear hb1))
    go_ret
    exact ⟨by first | (simp; done) | (simp; omega), HB⟩

set_option maxHeartbeats 4000000 in
set_option maxRecDepth 100000 in
theorem AluHolds_walk (a b : Int) (w : World) (wa : (Lit.int .u32 a).wf = true) (wb : (Lit.int .u32 b).wf = true) :
    Calls Try.prog 9 #[.int .u32 a, .int .u32 b] w fun e w' => e = .returned (.bool true) ∧ Bel w w' := by
  have ha := u32_of_wf wa
  have hb := u32_of_wf wb
  clear wa wb
  rcases Int.lt_trichotomy a b with h | h | h
  · have q1 : holdsI 1 a b = false := by simp [holdsI]; omega
    have q2 : holdsI 2 a b = true := by simp [holdsI]; omega
    have q3 : holdsI 3 a b = true := by simp [holdsI]; omega
    have q4 : holdsI 4 a b = false := by simp [holdsI]; omega
    have q5 : holdsI 3 b a = false := by simp [holdsI]; omega
    have q0 : holdsI 0 a b = true := by simp [holdsI]
    have q6 : (a == b) = false := by simp; omega
    have k0 : holdsOk 0 = true := by decide
    have k1 : holdsOk 1 = true := by decide
    have k2 : holdsOk 2 = true := by decide
    have k3 : holdsOk 3 = true := by decide
    have k4 : holdsOk 4 = true := by decide
    have HB := Bel.refl w
    go_enter Try.func9, Try.ntmps9
    go_wp2_with (first | (go_at_call 11; refine (awake_any _).mono ?_; rintro e w1 ⟨rfl, hb1⟩; have HB := HB.trans hb1; clear hb1) | (go_at_call 15; refine (holds_any _ _ _ _).mono ?_; rintro e w1 ⟨rfl, hb1⟩; have HB := HB.trans hb1; clear hb1))
    go_ret
    exact ⟨by first | (simp; done) | (simp; omega), HB⟩
  · subst h
    have q1 : holdsI 1 a a = true := by simp [holdsI]
    have q2 : holdsI 2 a a = false := by simp [holdsI]
    have q3 : holdsI 3 a a = false := by simp [holdsI]
    have q4 : holdsI 4 a a = true := by simp [holdsI]
    have q0 : holdsI 0 a a = true := by simp [holdsI]
    have k0 : holdsOk 0 = true := by decide
    have k1 : holdsOk 1 = true := by decide
    have k2 : holdsOk 2 = true := by decide
    have k3 : holdsOk 3 = true := by decide
    have k4 : holdsOk 4 = true := by decide
    have HB := Bel.refl w
    go_enter Try.func9, Try.ntmps9
    go_wp2_with (first | (go_at_call 11; refine (awake_any _).mono ?_; rintro e w1 ⟨rfl, hb1⟩; have HB := HB.trans hb1; clear hb1) | (go_at_call 15; refine (holds_any _ _ _ _).mono ?_; rintro e w1 ⟨rfl, hb1⟩; have HB := HB.trans hb1; clear hb1))
    go_ret
    exact ⟨by first | (simp; done) | (simp; omega), HB⟩
  · have q1 : holdsI 1 a b = false := by simp [holdsI]; omega
    have q2 : holdsI 2 a b = true := by simp [holdsI]; omega
    have q3 : holdsI 3 a b = false := by simp [holdsI]; omega
    have q4 : holdsI 4 a b = true := by simp [holdsI]; omega
    have q5 : holdsI 3 b a = true := by simp [holdsI]; omega
    have q0 : holdsI 0 a b = true := by simp [holdsI]
    have q6 : (a == b) = false := by simp; omega
    have k0 : holdsOk 0 = true := by decide
    have k1 : holdsOk 1 = true := by decide
    have k2 : holdsOk 2 = true := by decide
    have k3 : holdsOk 3 = true := by decide
    have k4 : holdsOk 4 = true := by decide
    have HB := Bel.refl w
    go_enter Try.func9, Try.ntmps9
    go_wp2_with (first | (go_at_call 11; refine (awake_any _).mono ?_; rintro e w1 ⟨rfl, hb1⟩; have HB := HB.trans hb1; clear hb1) | (go_at_call 15; refine (holds_any _ _ _ _).mono ?_; rintro e w1 ⟨rfl, hb1⟩; have HB := HB.trans hb1; clear hb1))
    go_ret
    exact ⟨by first | (simp; done) | (simp; omega), HB⟩

set_option maxHeartbeats 4000000 in
set_option maxRecDepth 100000 in
theorem AluWrong_walk (op a b : Int) (w : World) (wop : (Lit.int .i64 op).wf = true) (wa : (Lit.int .u32 a).wf = true) (wb : (Lit.int .u32 b).wf = true) :
    Calls Try.prog 10 #[.int .i64 op, .int .u32 a, .int .u32 b] w fun e w' => e = .returned (.bool true) ∧ Bel w w' := by
  have ha := u32_of_wf wa
  have hb := u32_of_wf wb
  clear wop wa wb
  obtain h | h | h | h : op < 0 ∨ (0 ≤ op ∧ op < 5) ∨ (5 ≤ op ∧ op < 11) ∨ 11 ≤ op := by omega
  · have q1 : aluOk op = false := decide_eq_false (by omega)
    have q2 : holdsOk op = false := decide_eq_false (by omega)
    have q3 : aluI op a b = 0 := aluI_none a b (by omega)
    have q4 : holdsI op a b = false := holdsI_none a b (by omega)
    have HB := Bel.refl w
    go_enter Try.func10, Try.ntmps10
    go_wp2_with (first | (go_at_call 11; refine (awake_any _).mono ?_; rintro e w1 ⟨rfl, hb1⟩; have HB := HB.trans hb1; clear hb1) | (go_at_call 13; refine (do_any _ _ _ _ (by repeat (first | assumption | exact u32_lit _ (by decide) | apply aluI_u32)) (by repeat (first | assumption | exact u32_lit _ (by decide) | apply aluI_u32))).mono ?_; rintro e w1 ⟨rfl, hb1⟩; have HB := HB.trans hb1; clear hb1) | (go_at_call 15; refine (holds_any _ _ _ _).mono ?_; rintro e w1 ⟨rfl, hb1⟩; have HB := HB.trans hb1; clear hb1))
    go_ret
    exact ⟨by first | (simp; done) | (simp; omega), HB⟩
  · obtain ⟨h1, h2⟩ := h
    have q1 : aluOk op = true := decide_eq_true (by omega)
    have q2 : holdsOk op = true := decide_eq_true (by omega)
    have HB := Bel.refl w
    go_enter Try.func10, Try.ntmps10
    go_wp2_with (first | (go_at_call 11; refine (awake_any _).mono ?_; rintro e w1 ⟨rfl, hb1⟩; have HB := HB.trans hb1; clear hb1) | (go_at_call 13; refine (do_any _ _ _ _ (by repeat (first | assumption | exact u32_lit _ (by decide) | apply aluI_u32)) (by repeat (first | assumption | exact u32_lit _ (by decide) | apply aluI_u32))).mono ?_; rintro e w1 ⟨rfl, hb1⟩; have HB := HB.trans hb1; clear hb1) | (go_at_call 15; refine (holds_any _ _ _ _).mono ?_; rintro e w1 ⟨rfl, hb1⟩; have HB := HB.trans hb1; clear hb1))
    go_ret
    exact ⟨by first | (simp; done) | (simp; omega), HB⟩
  · obtain ⟨h1, h2⟩ := h
    have q1 : aluOk op = true := decide_eq_true (by omega)
    have q2 : holdsOk op = false := decide_eq_false (by omega)
    have q4 : holdsI op a b = false := holdsI_none a b (by omega)
    have HB := Bel.refl w
    go_enter Try.func10, Try.ntmps10
    go_wp2_with (first | (go_at_call 11; refine (awake_any _).mono ?_; rintro e w1 ⟨rfl, hb1⟩; have HB := HB.trans hb1; clear hb1) | (go_at_call 13; refine (do_any _ _ _ _ (by repeat (first | assumption | exact u32_lit _ (by decide) | apply aluI_u32)) (by repeat (first | assumption | exact u32_lit _ (by decide) | apply aluI_u32))).mono ?_; rintro e w1 ⟨rfl, hb1⟩; have HB := HB.trans hb1; clear hb1) | (go_at_call 15; refine (holds_any _ _ _ _).mono ?_; rintro e w1 ⟨rfl, hb1⟩; have HB := HB.trans hb1; clear hb1))
    go_ret
    exact ⟨by first | (simp; done) | (simp; omega), HB⟩
  · have q1 : aluOk op = false := decide_eq_false (by omega)
    have q2 : holdsOk op = false := decide_eq_false (by omega)
    have q3 : aluI op a b = 0 := aluI_none a b (by omega)
    have q4 : holdsI op a b = false := holdsI_none a b (by omega)
    have HB := Bel.refl w
    go_enter Try.func10, Try.ntmps10
    go_wp2_with (first | (go_at_call 11; refine (awake_any _).mono ?_; rintro e w1 ⟨rfl, hb1⟩; have HB := HB.trans hb1; clear hb1) | (go_at_call 13; refine (do_any _ _ _ _ (by repeat (first | assumption | exact u32_lit _ (by decide) | apply aluI_u32)) (by repeat (first | assumption | exact u32_lit _ (by decide) | apply aluI_u32))).mono ?_; rintro e w1 ⟨rfl, hb1⟩; have HB := HB.trans hb1; clear hb1) | (go_at_call 15; refine (holds_any _ _ _ _).mono ?_; rintro e w1 ⟨rfl, hb1⟩; have HB := HB.trans hb1; clear hb1))
    go_ret
    exact ⟨by first | (simp; done) | (simp; omega), HB⟩

set_option maxHeartbeats 8000000 in
set_option maxRecDepth 100000 in
theorem AluOrder_walk (a b c : Int) (w : World) (wa : (Lit.int .u32 a).wf = true) (wb : (Lit.int .u32 b).wf = true) (wc : (Lit.int .u32 c).wf = true) :
    Calls Try.prog 4 #[.int .u32 a, .int .u32 b, .int .u32 c] w fun e w' => e = .returned (.bool true) ∧ Bel w w' := by
  have ha := u32_of_wf wa
  have hb := u32_of_wf wb
  have hc := u32_of_wf wc
  clear wa wb wc
  have HB := Bel.refl w
  have f0 : (aluI 3 a (aluI 1 b c) == aluI 1 (aluI 3 a b) (aluI 3 a c)) = true := beq_iff_eq.2 (distrib ha hb hc)
  go_enter Try.func4, Try.ntmps4
  go_wp2_with (first | (go_at_call 11; refine (awake_any _).mono ?_; rintro e w1 ⟨rfl, hb1⟩; have HB := HB.trans hb1; clear hb1))
  go_loopw [8] (fun v wr => ∃ k : Nat, 1 ≤ k ∧ k ≤ 11 ∧ v = .int .i64 k ∧ Bel w wr) (fun v _ => 11 - (intOf v).toNat)
  case atStart => exact ⟨1, by omega, by omega, rfl, HB⟩
  case round =>
    clear HB
    obtain ⟨k, hk1, hk2, rfl, HB⟩ := hrel
    obtain ⟨wo, rfl⟩ : ∃ wo : World, wo = wr := ⟨_, rfl⟩
    obtain rfl | rfl | rfl | rfl | rfl | rfl | rfl | rfl | rfl | rfl | rfl : k = 1 ∨ k = 2 ∨ k = 3 ∨ k = 4 ∨ k = 5 ∨ k = 6 ∨ k = 7 ∨ k = 8 ∨ k = 9 ∨ k = 10 ∨ k = 11 := by omega
    · have g1 : (aluI 1 a b != aluI 1 b a) = false := bne_eq_false_iff_eq.2 (comm_all ha hb 1 (by omega))
      have g2 : (aluI 1 (aluI 1 a b) c != aluI 1 a (aluI 1 b c)) = false := bne_eq_false_iff_eq.2 (assoc_all ha hb hc 1 (by omega))
      go_wp2_with (first | (go_at_call 12; refine (done_any _ _ _ _ (by repeat (first | assumption | exact u32_lit _ (by decide) | apply aluI_u32)) (by repeat (first | assumption | exact u32_lit _ (by decide) | apply aluI_u32))).mono ?_; rintro e w1 ⟨rfl, hb1⟩; have HB := HB.trans hb1; clear hb1))
      go_roundw
      case rel => exact ⟨2, by omega, by omega, rfl, HB⟩
      case measure => decide
    · skip
      go_wp2_with (first | (go_at_call 12; refine (done_any _ _ _ _ (by repeat (first | assumption | exact u32_lit _ (by decide) | apply aluI_u32)) (by repeat (first | assumption | exact u32_lit _ (by decide) | apply aluI_u32))).mono ?_; rintro e w1 ⟨rfl, hb1⟩; have HB := HB.trans hb1; clear hb1))
      go_roundw
      case rel => exact ⟨3, by omega, by omega, rfl, HB⟩
      case measure => decide
    · have g1 : (aluI 3 a b != aluI 3 b a) = false := bne_eq_false_iff_eq.2 (comm_all ha hb 3 (by omega))
      have g2 : (aluI 3 (aluI 3 a b) c != aluI 3 a (aluI 3 b c)) = false := bne_eq_false_iff_eq.2 (assoc_all ha hb hc 3 (by omega))
      go_wp2_with (first | (go_at_call 12; refine (done_any _ _ _ _ (by repeat (first | assumption | exact u32_lit _ (by decide) | apply aluI_u32)) (by repeat (first | assumption | exact u32_lit _ (by decide) | apply aluI_u32))).mono ?_; rintro e w1 ⟨rfl, hb1⟩; have HB := HB.trans hb1; clear hb1))
      go_roundw
      case rel => exact ⟨4, by omega, by omega, rfl, HB⟩
      case measure => decide
    · skip
      go_wp2_with (first | (go_at_call 12; refine (done_any _ _ _ _ (by repeat (first | assumption | exact u32_lit _ (by decide) | apply aluI_u32)) (by repeat (first | assumption | exact u32_lit _ (by decide) | apply aluI_u32))).mono ?_; rintro e w1 ⟨rfl, hb1⟩; have HB := HB.trans hb1; clear hb1))
      go_roundw
      case rel => exact ⟨5, by omega, by omega, rfl, HB⟩
      case measure => decide
    · skip
      go_wp2_with (first | (go_at_call 12; refine (done_any _ _ _ _ (by repeat (first | assumption | exact u32_lit _ (by decide) | apply aluI_u32)) (by repeat (first | assumption | exact u32_lit _ (by decide) | apply aluI_u32))).mono ?_; rintro e w1 ⟨rfl, hb1⟩; have HB := HB.trans hb1; clear hb1))
      go_roundw
      case rel => exact ⟨6, by omega, by omega, rfl, HB⟩
      case measure => decide
    · have g1 : (aluI 6 a b != aluI 6 b a) = false := bne_eq_false_iff_eq.2 (comm_all ha hb 6 (by omega))
      have g2 : (aluI 6 (aluI 6 a b) c != aluI 6 a (aluI 6 b c)) = false := bne_eq_false_iff_eq.2 (assoc_all ha hb hc 6 (by omega))
      go_wp2_with (first | (go_at_call 12; refine (done_any _ _ _ _ (by repeat (first | assumption | exact u32_lit _ (by decide) | apply aluI_u32)) (by repeat (first | assumption | exact u32_lit _ (by decide) | apply aluI_u32))).mono ?_; rintro e w1 ⟨rfl, hb1⟩; have HB := HB.trans hb1; clear hb1))
      go_roundw
      case rel => exact ⟨7, by omega, by omega, rfl, HB⟩
      case measure => decide
    · have g1 : (aluI 7 a b != aluI 7 b a) = false := bne_eq_false_iff_eq.2 (comm_all ha hb 7 (by omega))
      have g2 : (aluI 7 (aluI 7 a b) c != aluI 7 a (aluI 7 b c)) = false := bne_eq_false_iff_eq.2 (assoc_all ha hb hc 7 (by omega))
      go_wp2_with (first | (go_at_call 12; refine (done_any _ _ _ _ (by repeat (first | assumption | exact u32_lit _ (by decide) | apply aluI_u32)) (by repeat (first | assumption | exact u32_lit _ (by decide) | apply aluI_u32))).mono ?_; rintro e w1 ⟨rfl, hb1⟩; have HB := HB.trans hb1; clear hb1))
      go_roundw
      case rel => exact ⟨8, by omega, by omega, rfl, HB⟩
      case measure => decide
    · have g1 : (aluI 8 a b != aluI 8 b a) = false := bne_eq_false_iff_eq.2 (comm_all ha hb 8 (by omega))
      have g2 : (aluI 8 (aluI 8 a b) c != aluI 8 a (aluI 8 b c)) = false := bne_eq_false_iff_eq.2 (assoc_all ha hb hc 8 (by omega))
      go_wp2_with (first | (go_at_call 12; refine (done_any _ _ _ _ (by repeat (first | assumption | exact u32_lit _ (by decide) | apply aluI_u32)) (by repeat (first | assumption | exact u32_lit _ (by decide) | apply aluI_u32))).mono ?_; rintro e w1 ⟨rfl, hb1⟩; have HB := HB.trans hb1; clear hb1))
      go_roundw
      case rel => exact ⟨9, by omega, by omega, rfl, HB⟩
      case measure => decide
    · skip
      go_wp2_with (first | (go_at_call 12; refine (done_any _ _ _ _ (by repeat (first | assumption | exact u32_lit _ (by decide) | apply aluI_u32)) (by repeat (first | assumption | exact u32_lit _ (by decide) | apply aluI_u32))).mono ?_; rintro e w1 ⟨rfl, hb1⟩; have HB := HB.trans hb1; clear hb1))
      go_roundw
      case rel => exact ⟨10, by omega, by omega, rfl, HB⟩
      case measure => decide
    · skip
      go_wp2_with (first | (go_at_call 12; refine (done_any _ _ _ _ (by repeat (first | assumption | exact u32_lit _ (by decide) | apply aluI_u32)) (by repeat (first | assumption | exact u32_lit _ (by decide) | apply aluI_u32))).mono ?_; rintro e w1 ⟨rfl, hb1⟩; have HB := HB.trans hb1; clear hb1))
      go_roundw
      case rel => exact ⟨11, by omega, by omega, rfl, HB⟩
      case measure => decide
    · skip
      go_wp2_with (first | (go_at_call 12; refine (done_any _ _ _ _ (by repeat (first | assumption | exact u32_lit _ (by decide) | apply aluI_u32)) (by repeat (first | assumption | exact u32_lit _ (by decide) | apply aluI_u32))).mono ?_; rintro e w1 ⟨rfl, hb1⟩; have HB := HB.trans hb1; clear hb1))
      go_ret
      exact ⟨by simp, HB⟩
end Go.Proofs.Ytebpbogiifaneaa
