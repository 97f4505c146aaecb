/- The walk of InstApart. -/
import Derived.Test.YtajjodbfbmigkaaInstLaws
set_option linter.unusedVariables false
set_option linter.unusedSimpArgs false
namespace Go.Proofs.Ytajjodbfbmigkaa
open Go.RowKit
theorem box7b {w w1 : World} {o : Obj} {v0 v1 v2 v3 v4 v5 v6 : Value} {t : TypeId} (h : Bel ((w.alloc o).alloc (.cells #[v0, v1, v2, v3, v4, v5, v6] t)) w1) :
    w1.cell? ⟨w.heap.size + 1, 0, none⟩ = some v0 ∧ w1.cell? ⟨w.heap.size + 1, 1, none⟩ = some v1 ∧ w1.cell? ⟨w.heap.size + 1, 2, none⟩ = some v2 ∧ w1.cell? ⟨w.heap.size + 1, 3, none⟩ = some v3 ∧ w1.cell? ⟨w.heap.size + 1, 4, none⟩ = some v4 ∧ w1.cell? ⟨w.heap.size + 1, 5, none⟩ = some v5 ∧ w1.cell? ⟨w.heap.size + 1, 6, none⟩ = some v6 := by
  have := box7 h
  simpa using this

set_option maxHeartbeats 4000000 in
set_option maxRecDepth 100000 in
theorem InstApart_walk (C0 : Array Value) (a0 : InstD) (C1 : Array Value) (a1 : InstD) (w : World) (r0 : InstR w C0.toList a0) (r1 : InstR w C1.toList a1) :
    Calls Try.prog 5 #[.agg C0, .agg C1] w fun e w' => e = .returned (.bool true) ∧ Bel w w' := by
  obtain ⟨hcs, hwf⟩ := r0
  obtain ⟨hcs1, hwf1⟩ := r1
  obtain ⟨op, fn, dst, src, reg, off, imm⟩ := a0
  obtain ⟨op1, fn1, dst1, src1, reg1, off1, imm1⟩ := a1
  obtain rfl : C0 = #[.int .i64 op, .int .i64 fn, .int .i64 dst, .int .i64 src, .bool reg, .int .i64 off, .int .u32 imm] := inst_arr hcs
  obtain rfl : C1 = #[.int .i64 op1, .int .i64 fn1, .int .i64 dst1, .int .i64 src1, .bool reg1, .int .i64 off1, .int .u32 imm1] := inst_arr hcs1
  clear hcs hcs1
  have u0 : U32 imm := hwf.imm
  have u1 : U32 imm1 := hwf1.imm
  have HB := Bel.refl ((w.alloc (.cells #[.int .i64 op, .int .i64 fn, .int .i64 dst, .int .i64 src, .bool reg, .int .i64 off, .int .u32 imm] 24)).alloc (.cells #[.int .i64 op1, .int .i64 fn1, .int .i64 dst1, .int .i64 src1, .bool reg1, .int .i64 off1, .int .u32 imm1] 24))
  by_cases m0 : InstD.may ⟨op, fn, dst, src, reg, off, imm⟩ = true
  · by_cases m1 : InstD.may ⟨op1, fn1, dst1, src1, reg1, off1, imm1⟩ = true
    · have R0 : Hid (putR ⟨op, fn, dst, src, reg, off, imm⟩ = (InstD.put ⟨op, fn, dst, src, reg, off, imm⟩, 0)) := Lib.hid (if_pos m0)
      have R1 : Hid (putR ⟨op1, fn1, dst1, src1, reg1, off1, imm1⟩ = (InstD.put ⟨op1, fn1, dst1, src1, reg1, off1, imm1⟩, 0)) := Lib.hid (if_pos m1)
      have HI := Lib.hid (put_inj m0 m1 u0 u1)
      generalize hl0 : InstD.put ⟨op, fn, dst, src, reg, off, imm⟩ = l0 at *
      generalize hl1 : InstD.put ⟨op1, fn1, dst1, src1, reg1, off1, imm1⟩ = l1 at *
      have n0 : Hid (l0.length = 8) := Lib.hid (by rw [← hl0]; rfl)
      have n1 : Hid (l1.length = 8) := Lib.hid (by rw [← hl1]; rfl)
      clear hl0 hl1 m0 m1 hwf hwf1
      go_enter Try.func5, Try.ntmps5
      go_wp2_with fail
      refine (awake_any _).mono ?_
      rintro e w1 ⟨rfl, hb⟩
      have HB := HB.trans hb
      obtain ⟨q0, q1, q2, q3, q4, q5, q6⟩ := box7b HB
      obtain ⟨p0, p1, p2, p3, p4, p5, p6⟩ := box7 HB.un
      clear hb
      go_wp2_with fail
      refine (put_at op fn dst src reg off imm _ u0 _ _ R0).mono ?_
      rintro e w2 ⟨A0, c0, rfl, s0, hb⟩
      have HB := HB.trans hb
      have Hs0 := Lib.hid s0
      clear s0
      obtain ⟨q0, q1, q2, q3, q4, q5, q6⟩ := box7b HB
      obtain ⟨p0, p1, p2, p3, p4, p5, p6⟩ := box7 HB.un
      clear hb
      go_wp2_with fail
      refine (put_at op1 fn1 dst1 src1 reg1 off1 imm1 _ u1 _ _ R1).mono ?_
      rintro e w3 ⟨A1, c1, rfl, s1, hb⟩
      have HB := HB.trans hb
      have Hs0 := Lib.hid (Hs0.out.mono (IntR.mono _) hb)
      have Hs1 := Lib.hid s1
      clear s1
      obtain ⟨q0, q1, q2, q3, q4, q5, q6⟩ := box7b HB
      obtain ⟨p0, p1, p2, p3, p4, p5, p6⟩ := box7 HB.un
      clear hb
      by_cases he : l0 = l1
      · have hi := HI.out.1 he
        simp only [InstD.mk.injEq] at hi
        obtain ⟨rfl, rfl, rfl, rfl, rfl, rfl, rfl⟩ := hi
        have hd := Lib.hid (decide_eq_true he)
        clear he
        go_wp2_with fail
        go_quiet ((go_at_call 12; exact bytes_quiet _ _ _ _ _ _ l0 l1 _ _ Hs0.out Hs1.out (Lib.hid rfl) (Lib.hid rfl) true hd))
        have HB := HB.drewN nq
        go_wp2
        go_ret
        exact ⟨by first | (simp; done) | (simp; omega), HB.un.un⟩
      · have hi := decide_eq_false (fun h => he (HI.out.2 h))
        have EQ := inst_eql _ _ _ (Lib.hid hi)
        clear hi
        simp only at EQ
        have hd := Lib.hid (decide_eq_false he)
        clear he
        go_wp2_with fail
        go_quiet ((go_at_call 12; exact bytes_quiet _ _ _ _ _ _ l0 l1 _ _ Hs0.out Hs1.out (Lib.hid rfl) (Lib.hid rfl) false hd))
        have HB := HB.drewN nq
        go_wp2
        go_ret
        exact ⟨by first | (simp; done) | (simp; omega), HB.un.un⟩
    · have R0 : Hid (putR ⟨op, fn, dst, src, reg, off, imm⟩ = (InstD.put ⟨op, fn, dst, src, reg, off, imm⟩, 0)) := Lib.hid (if_pos m0)
      have R1 : Hid (putR ⟨op1, fn1, dst1, src1, reg1, off1, imm1⟩ = ([], 1)) := Lib.hid (if_neg m1)
      generalize InstD.put ⟨op, fn, dst, src, reg, off, imm⟩ = l0 at *
      clear m0 m1 hwf hwf1
      go_enter Try.func5, Try.ntmps5
      go_wp2_with fail
      refine (awake_any _).mono ?_
      rintro e w1 ⟨rfl, hb⟩
      have HB := HB.trans hb
      obtain ⟨q0, q1, q2, q3, q4, q5, q6⟩ := box7b HB
      obtain ⟨p0, p1, p2, p3, p4, p5, p6⟩ := box7 HB.un
      clear hb
      go_wp2_with fail
      refine (put_at op fn dst src reg off imm _ u0 _ _ R0).mono ?_
      rintro e w2 ⟨A0, c0, rfl, s0, hb⟩
      have HB := HB.trans hb
      have Hs0 := Lib.hid s0
      clear s0
      obtain ⟨q0, q1, q2, q3, q4, q5, q6⟩ := box7b HB
      obtain ⟨p0, p1, p2, p3, p4, p5, p6⟩ := box7 HB.un
      clear hb
      go_wp2_with fail
      refine (put_at op1 fn1 dst1 src1 reg1 off1 imm1 _ u1 _ _ R1).mono ?_
      rintro e w3 ⟨A1, c1, rfl, s1, hb⟩
      have HB := HB.trans hb
      have Hs0 := Lib.hid (Hs0.out.mono (IntR.mono _) hb)
      have Hs1 := Lib.hid s1
      clear s1
      obtain ⟨q0, q1, q2, q3, q4, q5, q6⟩ := box7b HB
      obtain ⟨p0, p1, p2, p3, p4, p5, p6⟩ := box7 HB.un
      clear hb
      go_wp2
      go_ret
      exact ⟨by first | (simp; done) | (simp; omega), HB.un.un⟩
  · have R0 : Hid (putR ⟨op, fn, dst, src, reg, off, imm⟩ = ([], 1)) := Lib.hid (if_neg m0)
    obtain ⟨⟨l1, e1⟩, R1⟩ : ∃ r, Hid (putR ⟨op1, fn1, dst1, src1, reg1, off1, imm1⟩ = r) := ⟨_, Lib.hid rfl⟩
    clear m0 hwf hwf1
    go_enter Try.func5, Try.ntmps5
    go_wp2_with fail
    refine (awake_any _).mono ?_
    rintro e w1 ⟨rfl, hb⟩
    have HB := HB.trans hb
    obtain ⟨q0, q1, q2, q3, q4, q5, q6⟩ := box7b HB
    obtain ⟨p0, p1, p2, p3, p4, p5, p6⟩ := box7 HB.un
    clear hb
    go_wp2_with fail
    refine (put_at op fn dst src reg off imm _ u0 _ _ R0).mono ?_
    rintro e w2 ⟨A0, c0, rfl, s0, hb⟩
    have HB := HB.trans hb
    have Hs0 := Lib.hid s0
    clear s0
    obtain ⟨q0, q1, q2, q3, q4, q5, q6⟩ := box7b HB
    obtain ⟨p0, p1, p2, p3, p4, p5, p6⟩ := box7 HB.un
    clear hb
    go_wp2_with fail
    refine (put_at op1 fn1 dst1 src1 reg1 off1 imm1 _ u1 _ _ R1).mono ?_
    rintro e w3 ⟨A1, c1, rfl, s1, hb⟩
    have HB := HB.trans hb
    have Hs0 := Lib.hid (Hs0.out.mono (IntR.mono _) hb)
    have Hs1 := Lib.hid s1
    clear s1
    obtain ⟨q0, q1, q2, q3, q4, q5, q6⟩ := box7b HB
    obtain ⟨p0, p1, p2, p3, p4, p5, p6⟩ := box7 HB.un
    clear hb
    go_wp2
    go_ret
    exact ⟨by first | (simp; done) | (simp; omega), HB.un.un⟩
end Go.Proofs.Ytajjodbfbmigkaa
