/- The walk of IsaCodes. -/
import Derived.Test.YtkceojfgpmjhhaaIsaCalls
set_option linter.unusedVariables false
set_option linter.unusedSimpArgs false
namespace Go.Proofs.Ytkceojfgpmjhhaa
open Go.RowKit
set_option maxHeartbeats 4000000 in
set_option maxRecDepth 100000 in
theorem IsaCodes_walk (C : Array Value) (a : InstD) (C1 : Array Value) (a1 : InstD) (w : World) (r0 : InstR w C.toList a) (r1 : InstR w C1.toList a1) :
    Calls Try.prog 5 #[.agg C, .agg C1] w fun e w' => e = .returned (.bool true) ∧ Bel w w' := by
  obtain ⟨hcs, hwf⟩ := r0
  obtain ⟨op, fn, dst, src, reg, off, imm⟩ := a
  obtain rfl : C = #[.int .i64 op, .int .i64 fn, .int .i64 dst, .int .i64 src, .bool reg, .int .i64 off, .int .u32 imm] := inst_arr hcs
  clear hcs
  have u : U32 imm := hwf.imm
  clear hwf
  obtain ⟨hcs1, hwf1⟩ := r1
  obtain ⟨op1, fn1, dst1, src1, reg1, off1, imm1⟩ := a1
  obtain rfl : C1 = #[.int .i64 op1, .int .i64 fn1, .int .i64 dst1, .int .i64 src1, .bool reg1, .int .i64 off1, .int .u32 imm1] := inst_arr hcs1
  clear hcs1
  have u1 : U32 imm1 := hwf1.imm
  clear hwf1
  have HB := Bel.refl ((w.alloc (.cells #[.int .i64 op, .int .i64 fn, .int .i64 dst, .int .i64 src, .bool reg, .int .i64 off, .int .u32 imm] 24)).alloc (.cells #[.int .i64 op1, .int .i64 fn1, .int .i64 dst1, .int .i64 src1, .bool reg1, .int .i64 off1, .int .u32 imm1] 24))
  by_cases m0 : mayB op fn dst src reg off imm = true
  · have HM0 := Lib.hid m0
    obtain ⟨k0, P0⟩ := code_pat m0
    obtain ⟨c0, hc0⟩ : ∃ c0, Hid (codeN op fn reg = c0) := ⟨_, Lib.hid rfl⟩
    rw [hc0.out] at k0 P0
    have l0 : ¬ (c0 : Int) < 0 := by omega
    have l1 : ¬ (40 : Int) ≤ c0 := by omega
    clear m0
    by_cases m1 : mayB op1 fn1 dst1 src1 reg1 off1 imm1 = true
    · have HM1 := Lib.hid m1
      obtain ⟨k1, P1⟩ := code_pat m1
      obtain ⟨c1, hc1⟩ : ∃ c1, Hid (codeN op1 fn1 reg1 = c1) := ⟨_, Lib.hid rfl⟩
      rw [hc1.out] at k1 P1
      have HD : Hid (¬ (op = op1 ∧ fn = fn1 ∧ reg = reg1) → ((c0 : Int) == c1) = false) := Lib.hid (fun h => by
        rw [beq_eq_false_iff_ne]
        intro he
        have : c0 = c1 := by omega
        subst this
        rw [P0] at P1
        simp only [Prod.mk.injEq] at P1
        exact h P1)
      clear P0 P1 k0 k1
      clear m1
      go_enter Try.func5, Try.ntmps5
      go_wp2_with fail
      refine (awake_any _).mono ?_
      rintro e w1 ⟨rfl, hb⟩
      have HB := HB.trans hb
      obtain ⟨q0, q1, q2, q3, q4, q5, q6⟩ := box7b HB
      obtain ⟨p0, p1, p2, p3, p4, p5, p6⟩ := box7 HB.un
      have ne : w.heap.size < w1.heap.size := World.block_lt_of_cell? _ _ p0
      have ne1 : ¬ w.heap.size = w1.heap.size := by omega
      have ne2 : ¬ w1.heap.size = w.heap.size := by omega
      clear hb
      go_wp2_with fail
      refine (code_at op fn dst src reg off imm _ _ hc0 HM0).mono ?_
      rintro e w2 ⟨rfl, hb⟩
      have HB := HB.trans hb
      obtain ⟨q0, q1, q2, q3, q4, q5, q6⟩ := box7b HB
      obtain ⟨p0, p1, p2, p3, p4, p5, p6⟩ := box7 HB.un
      have ne : w.heap.size < w2.heap.size := World.block_lt_of_cell? _ _ p0
      have ne1 : ¬ w.heap.size = w2.heap.size := by omega
      have ne2 : ¬ w2.heap.size = w.heap.size := by omega
      clear hb
      go_wp2_with fail
      refine (code_at op1 fn1 dst1 src1 reg1 off1 imm1 _ _ hc1 HM1).mono ?_
      rintro e w3 ⟨rfl, hb⟩
      have HB := HB.trans hb
      obtain ⟨q0, q1, q2, q3, q4, q5, q6⟩ := box7b HB
      obtain ⟨p0, p1, p2, p3, p4, p5, p6⟩ := box7 HB.un
      have ne : w.heap.size < w3.heap.size := World.block_lt_of_cell? _ _ p0
      have ne1 : ¬ w.heap.size = w3.heap.size := by omega
      have ne2 : ¬ w3.heap.size = w.heap.size := by omega
      clear hb
      go_wp2_with fail
      refine (may_at op fn dst src reg off imm true _ HM0).mono ?_
      rintro e w4 ⟨rfl, hb⟩
      have HB := HB.trans hb
      obtain ⟨q0, q1, q2, q3, q4, q5, q6⟩ := box7b HB
      obtain ⟨p0, p1, p2, p3, p4, p5, p6⟩ := box7 HB.un
      have ne : w.heap.size < w4.heap.size := World.block_lt_of_cell? _ _ p0
      have ne1 : ¬ w.heap.size = w4.heap.size := by omega
      have ne2 : ¬ w4.heap.size = w.heap.size := by omega
      clear hb
      go_wp2_with fail
      refine (may_at op1 fn1 dst1 src1 reg1 off1 imm1 true _ HM1).mono ?_
      rintro e w5 ⟨rfl, hb⟩
      have HB := HB.trans hb
      obtain ⟨q0, q1, q2, q3, q4, q5, q6⟩ := box7b HB
      obtain ⟨p0, p1, p2, p3, p4, p5, p6⟩ := box7 HB.un
      have ne : w.heap.size < w5.heap.size := World.block_lt_of_cell? _ _ p0
      have ne1 : ¬ w.heap.size = w5.heap.size := by omega
      have ne2 : ¬ w5.heap.size = w.heap.size := by omega
      clear hb
      by_cases g1 : op = op1
      · subst g1
        by_cases g2 : fn = fn1
        · subst g2
          by_cases g3 : reg = reg1
          · subst g3
            obtain rfl : c0 = c1 := by rw [← hc0.out, ← hc1.out]
            go_wp2
            go_ret
            exact ⟨by first | (simp; done) | (simp; omega), by repeat (first | exact HB.un | exact HB.un.un | apply Bel.alloc | apply Bel.drewN | (refine Bel.setCell ?_ (by first | exact Nat.le_refl _ | (simp; done) | (simp; omega)) _))⟩
          · have g3' : (reg == reg1) = false := by simpa using g3
            have cc : ((c0 : Int) == c1) = false := HD.out (by rintro ⟨_, _, h⟩; exact g3 h)
            go_wp2
            go_ret
            exact ⟨by first | (simp; done) | (simp; omega), by repeat (first | exact HB.un | exact HB.un.un | apply Bel.alloc | apply Bel.drewN | (refine Bel.setCell ?_ (by first | exact Nat.le_refl _ | (simp; done) | (simp; omega)) _))⟩
        · have g2' : (fn == fn1) = false := by simpa using g2
          have cc : ((c0 : Int) == c1) = false := HD.out (by rintro ⟨_, h, _⟩; exact g2 h)
          go_wp2
          go_ret
          exact ⟨by first | (simp; done) | (simp; omega), by repeat (first | exact HB.un | exact HB.un.un | apply Bel.alloc | apply Bel.drewN | (refine Bel.setCell ?_ (by first | exact Nat.le_refl _ | (simp; done) | (simp; omega)) _))⟩
      · have g1' : (op == op1) = false := by simpa using g1
        have cc : ((c0 : Int) == c1) = false := HD.out (by rintro ⟨h, _⟩; exact g1 h)
        go_wp2
        go_ret
        exact ⟨by first | (simp; done) | (simp; omega), by repeat (first | exact HB.un | exact HB.un.un | apply Bel.alloc | apply Bel.drewN | (refine Bel.setCell ?_ (by first | exact Nat.le_refl _ | (simp; done) | (simp; omega)) _))⟩
    · have HM1 : Hid (mayB op1 fn1 dst1 src1 reg1 off1 imm1 = false) := Lib.hid (by simpa using m1)
      clear m1
      go_enter Try.func5, Try.ntmps5
      go_wp2_with fail
      refine (awake_any _).mono ?_
      rintro e w1 ⟨rfl, hb⟩
      have HB := HB.trans hb
      obtain ⟨q0, q1, q2, q3, q4, q5, q6⟩ := box7b HB
      obtain ⟨p0, p1, p2, p3, p4, p5, p6⟩ := box7 HB.un
      have ne : w.heap.size < w1.heap.size := World.block_lt_of_cell? _ _ p0
      have ne1 : ¬ w.heap.size = w1.heap.size := by omega
      have ne2 : ¬ w1.heap.size = w.heap.size := by omega
      clear hb
      go_wp2_with fail
      refine (code_at op fn dst src reg off imm _ _ hc0 HM0).mono ?_
      rintro e w2 ⟨rfl, hb⟩
      have HB := HB.trans hb
      obtain ⟨q0, q1, q2, q3, q4, q5, q6⟩ := box7b HB
      obtain ⟨p0, p1, p2, p3, p4, p5, p6⟩ := box7 HB.un
      have ne : w.heap.size < w2.heap.size := World.block_lt_of_cell? _ _ p0
      have ne1 : ¬ w.heap.size = w2.heap.size := by omega
      have ne2 : ¬ w2.heap.size = w.heap.size := by omega
      clear hb
      go_wp2_with fail
      refine (codeno_at op1 fn1 dst1 src1 reg1 off1 imm1 _ HM1).mono ?_
      rintro e w3 ⟨rfl, hb⟩
      have HB := HB.trans hb
      obtain ⟨q0, q1, q2, q3, q4, q5, q6⟩ := box7b HB
      obtain ⟨p0, p1, p2, p3, p4, p5, p6⟩ := box7 HB.un
      have ne : w.heap.size < w3.heap.size := World.block_lt_of_cell? _ _ p0
      have ne1 : ¬ w.heap.size = w3.heap.size := by omega
      have ne2 : ¬ w3.heap.size = w.heap.size := by omega
      clear hb
      go_wp2_with fail
      refine (may_at op fn dst src reg off imm true _ HM0).mono ?_
      rintro e w4 ⟨rfl, hb⟩
      have HB := HB.trans hb
      obtain ⟨q0, q1, q2, q3, q4, q5, q6⟩ := box7b HB
      obtain ⟨p0, p1, p2, p3, p4, p5, p6⟩ := box7 HB.un
      have ne : w.heap.size < w4.heap.size := World.block_lt_of_cell? _ _ p0
      have ne1 : ¬ w.heap.size = w4.heap.size := by omega
      have ne2 : ¬ w4.heap.size = w.heap.size := by omega
      clear hb
      go_wp2_with fail
      refine (may_at op1 fn1 dst1 src1 reg1 off1 imm1 false _ HM1).mono ?_
      rintro e w5 ⟨rfl, hb⟩
      have HB := HB.trans hb
      obtain ⟨q0, q1, q2, q3, q4, q5, q6⟩ := box7b HB
      obtain ⟨p0, p1, p2, p3, p4, p5, p6⟩ := box7 HB.un
      have ne : w.heap.size < w5.heap.size := World.block_lt_of_cell? _ _ p0
      have ne1 : ¬ w.heap.size = w5.heap.size := by omega
      have ne2 : ¬ w5.heap.size = w.heap.size := by omega
      clear hb
      go_wp2
      go_ret
      exact ⟨by first | (simp; done) | (simp; omega), by repeat (first | exact HB.un | exact HB.un.un | apply Bel.alloc | apply Bel.drewN | (refine Bel.setCell ?_ (by first | exact Nat.le_refl _ | (simp; done) | (simp; omega)) _))⟩
  · have HM0 : Hid (mayB op fn dst src reg off imm = false) := Lib.hid (by simpa using m0)
    clear m0
    by_cases m1 : mayB op1 fn1 dst1 src1 reg1 off1 imm1 = true
    · have HM1 := Lib.hid m1
      obtain ⟨k1, P1⟩ := code_pat m1
      obtain ⟨c1, hc1⟩ : ∃ c1, Hid (codeN op1 fn1 reg1 = c1) := ⟨_, Lib.hid rfl⟩
      rw [hc1.out] at k1 P1
      clear m1
      go_enter Try.func5, Try.ntmps5
      go_wp2_with fail
      refine (awake_any _).mono ?_
      rintro e w1 ⟨rfl, hb⟩
      have HB := HB.trans hb
      obtain ⟨q0, q1, q2, q3, q4, q5, q6⟩ := box7b HB
      obtain ⟨p0, p1, p2, p3, p4, p5, p6⟩ := box7 HB.un
      have ne : w.heap.size < w1.heap.size := World.block_lt_of_cell? _ _ p0
      have ne1 : ¬ w.heap.size = w1.heap.size := by omega
      have ne2 : ¬ w1.heap.size = w.heap.size := by omega
      clear hb
      go_wp2_with fail
      refine (codeno_at op fn dst src reg off imm _ HM0).mono ?_
      rintro e w2 ⟨rfl, hb⟩
      have HB := HB.trans hb
      obtain ⟨q0, q1, q2, q3, q4, q5, q6⟩ := box7b HB
      obtain ⟨p0, p1, p2, p3, p4, p5, p6⟩ := box7 HB.un
      have ne : w.heap.size < w2.heap.size := World.block_lt_of_cell? _ _ p0
      have ne1 : ¬ w.heap.size = w2.heap.size := by omega
      have ne2 : ¬ w2.heap.size = w.heap.size := by omega
      clear hb
      go_wp2_with fail
      refine (code_at op1 fn1 dst1 src1 reg1 off1 imm1 _ _ hc1 HM1).mono ?_
      rintro e w3 ⟨rfl, hb⟩
      have HB := HB.trans hb
      obtain ⟨q0, q1, q2, q3, q4, q5, q6⟩ := box7b HB
      obtain ⟨p0, p1, p2, p3, p4, p5, p6⟩ := box7 HB.un
      have ne : w.heap.size < w3.heap.size := World.block_lt_of_cell? _ _ p0
      have ne1 : ¬ w.heap.size = w3.heap.size := by omega
      have ne2 : ¬ w3.heap.size = w.heap.size := by omega
      clear hb
      go_wp2_with fail
      refine (may_at op fn dst src reg off imm false _ HM0).mono ?_
      rintro e w4 ⟨rfl, hb⟩
      have HB := HB.trans hb
      obtain ⟨q0, q1, q2, q3, q4, q5, q6⟩ := box7b HB
      obtain ⟨p0, p1, p2, p3, p4, p5, p6⟩ := box7 HB.un
      have ne : w.heap.size < w4.heap.size := World.block_lt_of_cell? _ _ p0
      have ne1 : ¬ w.heap.size = w4.heap.size := by omega
      have ne2 : ¬ w4.heap.size = w.heap.size := by omega
      clear hb
      go_wp2_with fail
      refine (may_at op1 fn1 dst1 src1 reg1 off1 imm1 true _ HM1).mono ?_
      rintro e w5 ⟨rfl, hb⟩
      have HB := HB.trans hb
      obtain ⟨q0, q1, q2, q3, q4, q5, q6⟩ := box7b HB
      obtain ⟨p0, p1, p2, p3, p4, p5, p6⟩ := box7 HB.un
      have ne : w.heap.size < w5.heap.size := World.block_lt_of_cell? _ _ p0
      have ne1 : ¬ w.heap.size = w5.heap.size := by omega
      have ne2 : ¬ w5.heap.size = w.heap.size := by omega
      clear hb
      go_wp2
      go_ret
      exact ⟨by first | (simp; done) | (simp; omega), by repeat (first | exact HB.un | exact HB.un.un | apply Bel.alloc | apply Bel.drewN | (refine Bel.setCell ?_ (by first | exact Nat.le_refl _ | (simp; done) | (simp; omega)) _))⟩
    · have HM1 : Hid (mayB op1 fn1 dst1 src1 reg1 off1 imm1 = false) := Lib.hid (by simpa using m1)
      clear m1
      go_enter Try.func5, Try.ntmps5
      go_wp2_with fail
      refine (awake_any _).mono ?_
      rintro e w1 ⟨rfl, hb⟩
      have HB := HB.trans hb
      obtain ⟨q0, q1, q2, q3, q4, q5, q6⟩ := box7b HB
      obtain ⟨p0, p1, p2, p3, p4, p5, p6⟩ := box7 HB.un
      have ne : w.heap.size < w1.heap.size := World.block_lt_of_cell? _ _ p0
      have ne1 : ¬ w.heap.size = w1.heap.size := by omega
      have ne2 : ¬ w1.heap.size = w.heap.size := by omega
      clear hb
      go_wp2_with fail
      refine (codeno_at op fn dst src reg off imm _ HM0).mono ?_
      rintro e w2 ⟨rfl, hb⟩
      have HB := HB.trans hb
      obtain ⟨q0, q1, q2, q3, q4, q5, q6⟩ := box7b HB
      obtain ⟨p0, p1, p2, p3, p4, p5, p6⟩ := box7 HB.un
      have ne : w.heap.size < w2.heap.size := World.block_lt_of_cell? _ _ p0
      have ne1 : ¬ w.heap.size = w2.heap.size := by omega
      have ne2 : ¬ w2.heap.size = w.heap.size := by omega
      clear hb
      go_wp2_with fail
      refine (codeno_at op1 fn1 dst1 src1 reg1 off1 imm1 _ HM1).mono ?_
      rintro e w3 ⟨rfl, hb⟩
      have HB := HB.trans hb
      obtain ⟨q0, q1, q2, q3, q4, q5, q6⟩ := box7b HB
      obtain ⟨p0, p1, p2, p3, p4, p5, p6⟩ := box7 HB.un
      have ne : w.heap.size < w3.heap.size := World.block_lt_of_cell? _ _ p0
      have ne1 : ¬ w.heap.size = w3.heap.size := by omega
      have ne2 : ¬ w3.heap.size = w.heap.size := by omega
      clear hb
      go_wp2_with fail
      refine (may_at op fn dst src reg off imm false _ HM0).mono ?_
      rintro e w4 ⟨rfl, hb⟩
      have HB := HB.trans hb
      obtain ⟨q0, q1, q2, q3, q4, q5, q6⟩ := box7b HB
      obtain ⟨p0, p1, p2, p3, p4, p5, p6⟩ := box7 HB.un
      have ne : w.heap.size < w4.heap.size := World.block_lt_of_cell? _ _ p0
      have ne1 : ¬ w.heap.size = w4.heap.size := by omega
      have ne2 : ¬ w4.heap.size = w.heap.size := by omega
      clear hb
      go_wp2_with fail
      refine (may_at op1 fn1 dst1 src1 reg1 off1 imm1 false _ HM1).mono ?_
      rintro e w5 ⟨rfl, hb⟩
      have HB := HB.trans hb
      obtain ⟨q0, q1, q2, q3, q4, q5, q6⟩ := box7b HB
      obtain ⟨p0, p1, p2, p3, p4, p5, p6⟩ := box7 HB.un
      have ne : w.heap.size < w5.heap.size := World.block_lt_of_cell? _ _ p0
      have ne1 : ¬ w.heap.size = w5.heap.size := by omega
      have ne2 : ¬ w5.heap.size = w.heap.size := by omega
      clear hb
      go_wp2
      go_ret
      exact ⟨by first | (simp; done) | (simp; omega), by repeat (first | exact HB.un | exact HB.un.un | apply Bel.alloc | apply Bel.drewN | (refine Bel.setCell ?_ (by first | exact Nat.le_refl _ | (simp; done) | (simp; omega)) _))⟩
end Go.Proofs.Ytkceojfgpmjhhaa
