/- The walk of InstBack. -/
import Derived.Test.YtajjodbfbmigkaaInstLawApart
set_option linter.unusedVariables false
set_option linter.unusedSimpArgs false
namespace Go.Proofs.Ytajjodbfbmigkaa
open Go.RowKit
theorem may_at (op fn dst src : Int) (reg : Bool) (off imm : Int) (b : Bool) (w : World) (h : Hid (InstD.may ⟨op, fn, dst, src, reg, off, imm⟩ = b)) : Calls Try.prog 15 #[.agg #[.int .i64 op, .int .i64 fn, .int .i64 dst, .int .i64 src, .bool reg, .int .i64 off, .int .u32 imm]] w fun e w' => e = .returned (.bool b) ∧ Bel w w' := by
  have := may_any op fn dst src reg off imm w
  rw [show mayB op fn dst src reg off imm = b from h.out] at this
  exact this
set_option maxHeartbeats 4000000 in
set_option maxRecDepth 100000 in
theorem InstBack_walk (C0 : Array Value) (a0 : InstD) (A : Option Addr) (c : Nat) (l : List Int) (w : World) (r0 : InstR w C0.toList a0) (hs : Sl (IntR .u8) 1 w A c l) :
    Calls Try.prog 4 #[.agg C0, .slice A l.length c] w fun e w' => e = .returned (.bool true) ∧ Bel w w' := by
  obtain ⟨hcs, hwf⟩ := r0
  obtain ⟨op, fn, dst, src, reg, off, imm⟩ := a0
  obtain rfl : C0 = #[.int .i64 op, .int .i64 fn, .int .i64 dst, .int .i64 src, .bool reg, .int .i64 off, .int .u32 imm] := inst_arr hcs
  clear hcs
  have u0 : U32 imm := hwf.imm
  have b1 : l.length ≤ 9223372036854775807 := by have := hs.le; have := hs.big; simp only [maxLen] at this; omega
  have HB := Bel.refl (w.alloc (.cells #[.int .i64 op, .int .i64 fn, .int .i64 dst, .int .i64 src, .bool reg, .int .i64 off, .int .u32 imm] 24))
  have HS := Lib.hid (hs.mono (IntR.mono _) HB.un)
  by_cases h1 : 100 < l.length
  · clear hs
    have h1' : (100 : Int) < (l.length : Int) := by omega
    go_enter Try.func4, Try.ntmps4
    go_wp2_with fail
    refine (awake_any _).mono ?_
    rintro e w1 ⟨rfl, hb⟩
    have HB := HB.trans hb
    have HS := Lib.hid (HS.out.mono (IntR.mono _) hb)
    obtain ⟨p0, p1, p2, p3, p4, p5, p6⟩ := box7 HB
    have ne : w.heap.size < w1.heap.size := World.block_lt_of_cell? _ _ p0
    have ne1 : ¬ w.heap.size = w1.heap.size := by omega
    have ne2 : ¬ w1.heap.size = w.heap.size := by omega
    clear hb
    go_wp2
    go_ret
    exact ⟨by first | (simp; done) | (simp; omega), HB.un⟩
  · have h1' : ¬ (100 : Int) < (l.length : Int) := by omega
    by_cases m0 : InstD.may ⟨op, fn, dst, src, reg, off, imm⟩ = true
    · have R0 : Hid (putR ⟨op, fn, dst, src, reg, off, imm⟩ = (InstD.put ⟨op, fn, dst, src, reg, off, imm⟩, 0)) := Lib.hid (if_pos m0)
      have G0 : Hid (getR (InstD.put ⟨op, fn, dst, src, reg, off, imm⟩) = (⟨op, fn, dst, src, reg, off, imm⟩, 0)) := Lib.hid (getR_put m0 u0)
      have n0 : ((InstD.put ⟨op, fn, dst, src, reg, off, imm⟩).length : Int) = 8 := rfl
      generalize InstD.put ⟨op, fn, dst, src, reg, off, imm⟩ = l0 at *
      clear m0 hwf
      by_cases m1 : (getR l).2 = 0
      · obtain ⟨z1, z2, z3⟩ := getR_ok m1
        have z4 := put_get z1 hs.u8 z2
        have z5 := getI_imm z1 hs.u8
        have R1 : Hid (putR (getI l) = ((getI l).put, 0)) := Lib.hid (if_pos z2)
        have M1 : Hid ((getI l).may = true) := Lib.hid z2
        have G1 := Lib.hid z3
        rw [z4] at R1
        have t9 : decide (l = l) = true := by simp
        have HN := Lib.hid z1
        rw [z1]
        clear z4 z3 z2 z1 m1 hs
        generalize getI l = Y at *
        obtain ⟨yop, yfn, ydst, ysrc, yreg, yoff, yimm⟩ := Y
        have u1 : U32 yimm := z5
        clear z5
        go_enter Try.func4, Try.ntmps4
        go_wp2_with fail
        refine (awake_any _).mono ?_
        rintro e w1 ⟨rfl, hb⟩
        have HB := HB.trans hb
        have HS := Lib.hid (HS.out.mono (IntR.mono _) hb)
        obtain ⟨p0, p1, p2, p3, p4, p5, p6⟩ := box7 HB
        have ne : w.heap.size < w1.heap.size := World.block_lt_of_cell? _ _ p0
        have ne1 : ¬ w.heap.size = w1.heap.size := by omega
        have ne2 : ¬ w1.heap.size = w.heap.size := by omega
        clear hb
        go_wp2_with fail
        refine (put_at op fn dst src reg off imm _ u0 _ _ R0).mono ?_
        rintro e w2 ⟨A0, c0, rfl, s0, hb⟩
        have HB := HB.trans hb
        have HS := Lib.hid (HS.out.mono (IntR.mono _) hb)
        have Hs0 := Lib.hid s0
        clear s0
        obtain ⟨p0, p1, p2, p3, p4, p5, p6⟩ := box7 HB
        have ne : w.heap.size < w2.heap.size := World.block_lt_of_cell? _ _ p0
        have ne1 : ¬ w.heap.size = w2.heap.size := by omega
        have ne2 : ¬ w2.heap.size = w.heap.size := by omega
        clear hb
        go_wp2_with fail
        refine (get_at _ _ _ _ _ Hs0.out (Lib.hid rfl) _ _ G0).mono ?_
        rintro e w3 ⟨rfl, hb⟩
        have HB := HB.trans hb
        have HS := Lib.hid (HS.out.mono (IntR.mono _) hb)
        have Hs0 := Lib.hid (Hs0.out.mono (IntR.mono _) hb)
        obtain ⟨p0, p1, p2, p3, p4, p5, p6⟩ := box7 HB
        have ne : w.heap.size < w3.heap.size := World.block_lt_of_cell? _ _ p0
        have ne1 : ¬ w.heap.size = w3.heap.size := by omega
        have ne2 : ¬ w3.heap.size = w.heap.size := by omega
        clear hb
        go_wp2_with fail
        refine (get_at _ _ _ _ _ (HS.out.mono (IntR.mono _) ((Bel.refl _).alloc _)) HN _ _ G1).mono ?_
        rintro e w4 ⟨rfl, hb⟩
        replace hb := ((Bel.refl _).alloc _).trans hb
        have HB := HB.trans hb
        have HS := Lib.hid (HS.out.mono (IntR.mono _) hb)
        have Hs0 := Lib.hid (Hs0.out.mono (IntR.mono _) hb)
        obtain ⟨p0, p1, p2, p3, p4, p5, p6⟩ := box7 HB
        have ne : w.heap.size < w4.heap.size := World.block_lt_of_cell? _ _ p0
        have ne1 : ¬ w.heap.size = w4.heap.size := by omega
        have ne2 : ¬ w4.heap.size = w.heap.size := by omega
        clear hb
        go_wp2_with fail
        refine (put_at yop yfn ydst ysrc yreg yoff yimm _ u1 _ _ R1).mono ?_
        rintro e w5 ⟨A1, c1, rfl, s1, hb⟩
        have HY := hb
        obtain ⟨q0, q1, q2, q3, q4, q5, q6⟩ := box7 HY
        replace hb := ((Bel.refl _).alloc _).trans hb
        have HB := HB.trans hb
        have HS := Lib.hid (HS.out.mono (IntR.mono _) hb)
        have Hs0 := Lib.hid (Hs0.out.mono (IntR.mono _) hb)
        have Hs1 := Lib.hid s1
        clear s1
        obtain ⟨p0, p1, p2, p3, p4, p5, p6⟩ := box7 HB
        have ne : w.heap.size < w5.heap.size := World.block_lt_of_cell? _ _ p0
        have ne1 : ¬ w.heap.size = w5.heap.size := by omega
        have ne2 : ¬ w5.heap.size = w.heap.size := by omega
        clear hb
        go_wp2_with fail
        refine (bytes_at _ _ _ _ _ _ _ _ _ Hs1.out HS.out (Lib.hid rfl) HN true (Lib.hid (by simp))).mono ?_
        rintro e w6 ⟨rfl, hb⟩
        have HY := HY.trans hb
        obtain ⟨q0, q1, q2, q3, q4, q5, q6⟩ := box7 HY
        have HB := HB.trans hb
        have HS := Lib.hid (HS.out.mono (IntR.mono _) hb)
        have Hs0 := Lib.hid (Hs0.out.mono (IntR.mono _) hb)
        have Hs1 := Lib.hid (Hs1.out.mono (IntR.mono _) hb)
        obtain ⟨p0, p1, p2, p3, p4, p5, p6⟩ := box7 HB
        have ne : w.heap.size < w6.heap.size := World.block_lt_of_cell? _ _ p0
        have ne1 : ¬ w.heap.size = w6.heap.size := by omega
        have ne2 : ¬ w6.heap.size = w.heap.size := by omega
        clear hb
        go_wp2_with fail
        refine (may_at yop yfn ydst ysrc yreg yoff yimm true _ M1).mono ?_
        rintro e w7 ⟨rfl, hb⟩
        have HY := HY.trans hb
        obtain ⟨q0, q1, q2, q3, q4, q5, q6⟩ := box7 HY
        have HB := HB.trans hb
        have HS := Lib.hid (HS.out.mono (IntR.mono _) hb)
        have Hs0 := Lib.hid (Hs0.out.mono (IntR.mono _) hb)
        have Hs1 := Lib.hid (Hs1.out.mono (IntR.mono _) hb)
        obtain ⟨p0, p1, p2, p3, p4, p5, p6⟩ := box7 HB
        have ne : w.heap.size < w7.heap.size := World.block_lt_of_cell? _ _ p0
        have ne1 : ¬ w.heap.size = w7.heap.size := by omega
        have ne2 : ¬ w7.heap.size = w.heap.size := by omega
        clear hb
        go_wp2
        go_ret
        exact ⟨by first | (simp; done) | (simp; omega), HB.un⟩
      · have G1 : Hid (getR l = (InstD.zero, 7)) := Lib.hid (getR_two m1)
        clear m1 hs
        go_enter Try.func4, Try.ntmps4
        go_wp2_with fail
        refine (awake_any _).mono ?_
        rintro e w1 ⟨rfl, hb⟩
        have HB := HB.trans hb
        have HS := Lib.hid (HS.out.mono (IntR.mono _) hb)
        obtain ⟨p0, p1, p2, p3, p4, p5, p6⟩ := box7 HB
        have ne : w.heap.size < w1.heap.size := World.block_lt_of_cell? _ _ p0
        have ne1 : ¬ w.heap.size = w1.heap.size := by omega
        have ne2 : ¬ w1.heap.size = w.heap.size := by omega
        clear hb
        go_wp2_with fail
        refine (put_at op fn dst src reg off imm _ u0 _ _ R0).mono ?_
        rintro e w2 ⟨A0, c0, rfl, s0, hb⟩
        have HB := HB.trans hb
        have HS := Lib.hid (HS.out.mono (IntR.mono _) hb)
        have Hs0 := Lib.hid s0
        clear s0
        obtain ⟨p0, p1, p2, p3, p4, p5, p6⟩ := box7 HB
        have ne : w.heap.size < w2.heap.size := World.block_lt_of_cell? _ _ p0
        have ne1 : ¬ w.heap.size = w2.heap.size := by omega
        have ne2 : ¬ w2.heap.size = w.heap.size := by omega
        clear hb
        go_wp2_with fail
        refine (get_at _ _ _ _ _ Hs0.out (Lib.hid rfl) _ _ G0).mono ?_
        rintro e w3 ⟨rfl, hb⟩
        have HB := HB.trans hb
        have HS := Lib.hid (HS.out.mono (IntR.mono _) hb)
        have Hs0 := Lib.hid (Hs0.out.mono (IntR.mono _) hb)
        obtain ⟨p0, p1, p2, p3, p4, p5, p6⟩ := box7 HB
        have ne : w.heap.size < w3.heap.size := World.block_lt_of_cell? _ _ p0
        have ne1 : ¬ w.heap.size = w3.heap.size := by omega
        have ne2 : ¬ w3.heap.size = w.heap.size := by omega
        clear hb
        go_wp2_with fail
        refine (get_at _ _ _ _ _ (HS.out.mono (IntR.mono _) ((Bel.refl _).alloc _)) (Lib.hid rfl) _ _ G1).mono ?_
        rintro e w4 ⟨rfl, hb⟩
        replace hb := ((Bel.refl _).alloc _).trans hb
        have HB := HB.trans hb
        have HS := Lib.hid (HS.out.mono (IntR.mono _) hb)
        have Hs0 := Lib.hid (Hs0.out.mono (IntR.mono _) hb)
        obtain ⟨p0, p1, p2, p3, p4, p5, p6⟩ := box7 HB
        have ne : w.heap.size < w4.heap.size := World.block_lt_of_cell? _ _ p0
        have ne1 : ¬ w.heap.size = w4.heap.size := by omega
        have ne2 : ¬ w4.heap.size = w.heap.size := by omega
        clear hb
        go_wp2
        go_ret
        exact ⟨by first | (simp; done) | (simp; omega), by repeat (first | exact HB.un | exact (HB.alloc _).un | apply Bel.alloc | apply Bel.drewN)⟩
    · have R0 : Hid (putR ⟨op, fn, dst, src, reg, off, imm⟩ = ([], 1)) := Lib.hid (if_neg m0)
      have G0 : Hid (getR [] = (InstD.zero, 7)) := Lib.hid rfl
      have M0 : Hid (InstD.may ⟨op, fn, dst, src, reg, off, imm⟩ = false) := Lib.hid (by simpa using m0)
      clear m0 hwf
      by_cases m1 : (getR l).2 = 0
      · obtain ⟨z1, z2, z3⟩ := getR_ok m1
        have z4 := put_get z1 hs.u8 z2
        have z5 := getI_imm z1 hs.u8
        have R1 : Hid (putR (getI l) = ((getI l).put, 0)) := Lib.hid (if_pos z2)
        have M1 : Hid ((getI l).may = true) := Lib.hid z2
        have G1 := Lib.hid z3
        rw [z4] at R1
        have t9 : decide (l = l) = true := by simp
        have HN := Lib.hid z1
        rw [z1]
        clear z4 z3 z2 z1 m1 hs
        generalize getI l = Y at *
        obtain ⟨yop, yfn, ydst, ysrc, yreg, yoff, yimm⟩ := Y
        have u1 : U32 yimm := z5
        clear z5
        go_enter Try.func4, Try.ntmps4
        go_wp2_with fail
        refine (awake_any _).mono ?_
        rintro e w1 ⟨rfl, hb⟩
        have HB := HB.trans hb
        have HS := Lib.hid (HS.out.mono (IntR.mono _) hb)
        obtain ⟨p0, p1, p2, p3, p4, p5, p6⟩ := box7 HB
        have ne : w.heap.size < w1.heap.size := World.block_lt_of_cell? _ _ p0
        have ne1 : ¬ w.heap.size = w1.heap.size := by omega
        have ne2 : ¬ w1.heap.size = w.heap.size := by omega
        clear hb
        go_wp2_with fail
        refine (put_at op fn dst src reg off imm _ u0 _ _ R0).mono ?_
        rintro e w2 ⟨A0, c0, rfl, s0, hb⟩
        have HB := HB.trans hb
        have HS := Lib.hid (HS.out.mono (IntR.mono _) hb)
        have Hs0 := Lib.hid s0
        clear s0
        obtain ⟨p0, p1, p2, p3, p4, p5, p6⟩ := box7 HB
        have ne : w.heap.size < w2.heap.size := World.block_lt_of_cell? _ _ p0
        have ne1 : ¬ w.heap.size = w2.heap.size := by omega
        have ne2 : ¬ w2.heap.size = w.heap.size := by omega
        clear hb
        go_wp2_with fail
        refine (get_at _ _ _ _ _ Hs0.out (Lib.hid rfl) _ _ G0).mono ?_
        rintro e w3 ⟨rfl, hb⟩
        have HB := HB.trans hb
        have HS := Lib.hid (HS.out.mono (IntR.mono _) hb)
        have Hs0 := Lib.hid (Hs0.out.mono (IntR.mono _) hb)
        obtain ⟨p0, p1, p2, p3, p4, p5, p6⟩ := box7 HB
        have ne : w.heap.size < w3.heap.size := World.block_lt_of_cell? _ _ p0
        have ne1 : ¬ w.heap.size = w3.heap.size := by omega
        have ne2 : ¬ w3.heap.size = w.heap.size := by omega
        clear hb
        go_wp2_with fail
        refine (may_at op fn dst src reg off imm false _ M0).mono ?_
        rintro e w4 ⟨rfl, hb⟩
        replace hb := ((Bel.refl _).alloc _).trans hb
        have HB := HB.trans hb
        have HS := Lib.hid (HS.out.mono (IntR.mono _) hb)
        have Hs0 := Lib.hid (Hs0.out.mono (IntR.mono _) hb)
        obtain ⟨p0, p1, p2, p3, p4, p5, p6⟩ := box7 HB
        have ne : w.heap.size < w4.heap.size := World.block_lt_of_cell? _ _ p0
        have ne1 : ¬ w.heap.size = w4.heap.size := by omega
        have ne2 : ¬ w4.heap.size = w.heap.size := by omega
        clear hb
        go_wp2_with fail
        refine (get_at _ _ _ _ _ HS.out HN _ _ G1).mono ?_
        rintro e w5 ⟨rfl, hb⟩
        have HB := HB.trans hb
        have HS := Lib.hid (HS.out.mono (IntR.mono _) hb)
        have Hs0 := Lib.hid (Hs0.out.mono (IntR.mono _) hb)
        obtain ⟨p0, p1, p2, p3, p4, p5, p6⟩ := box7 HB
        have ne : w.heap.size < w5.heap.size := World.block_lt_of_cell? _ _ p0
        have ne1 : ¬ w.heap.size = w5.heap.size := by omega
        have ne2 : ¬ w5.heap.size = w.heap.size := by omega
        clear hb
        go_wp2_with fail
        refine (put_at yop yfn ydst ysrc yreg yoff yimm _ u1 _ _ R1).mono ?_
        rintro e w6 ⟨A1, c1, rfl, s1, hb⟩
        have HY := hb
        obtain ⟨q0, q1, q2, q3, q4, q5, q6⟩ := box7 HY
        replace hb := ((Bel.refl _).alloc _).trans hb
        have HB := HB.trans hb
        have HS := Lib.hid (HS.out.mono (IntR.mono _) hb)
        have Hs0 := Lib.hid (Hs0.out.mono (IntR.mono _) hb)
        have Hs1 := Lib.hid s1
        clear s1
        obtain ⟨p0, p1, p2, p3, p4, p5, p6⟩ := box7 HB
        have ne : w.heap.size < w6.heap.size := World.block_lt_of_cell? _ _ p0
        have ne1 : ¬ w.heap.size = w6.heap.size := by omega
        have ne2 : ¬ w6.heap.size = w.heap.size := by omega
        clear hb
        go_wp2_with fail
        refine (bytes_at _ _ _ _ _ _ _ _ _ Hs1.out HS.out (Lib.hid rfl) HN true (Lib.hid (by simp))).mono ?_
        rintro e w7 ⟨rfl, hb⟩
        have HY := HY.trans hb
        obtain ⟨q0, q1, q2, q3, q4, q5, q6⟩ := box7 HY
        have HB := HB.trans hb
        have HS := Lib.hid (HS.out.mono (IntR.mono _) hb)
        have Hs0 := Lib.hid (Hs0.out.mono (IntR.mono _) hb)
        have Hs1 := Lib.hid (Hs1.out.mono (IntR.mono _) hb)
        obtain ⟨p0, p1, p2, p3, p4, p5, p6⟩ := box7 HB
        have ne : w.heap.size < w7.heap.size := World.block_lt_of_cell? _ _ p0
        have ne1 : ¬ w.heap.size = w7.heap.size := by omega
        have ne2 : ¬ w7.heap.size = w.heap.size := by omega
        clear hb
        go_wp2_with fail
        refine (may_at yop yfn ydst ysrc yreg yoff yimm true _ M1).mono ?_
        rintro e w8 ⟨rfl, hb⟩
        have HY := HY.trans hb
        obtain ⟨q0, q1, q2, q3, q4, q5, q6⟩ := box7 HY
        have HB := HB.trans hb
        have HS := Lib.hid (HS.out.mono (IntR.mono _) hb)
        have Hs0 := Lib.hid (Hs0.out.mono (IntR.mono _) hb)
        have Hs1 := Lib.hid (Hs1.out.mono (IntR.mono _) hb)
        obtain ⟨p0, p1, p2, p3, p4, p5, p6⟩ := box7 HB
        have ne : w.heap.size < w8.heap.size := World.block_lt_of_cell? _ _ p0
        have ne1 : ¬ w.heap.size = w8.heap.size := by omega
        have ne2 : ¬ w8.heap.size = w.heap.size := by omega
        clear hb
        go_wp2
        go_ret
        exact ⟨by first | (simp; done) | (simp; omega), HB.un⟩
      · have G1 : Hid (getR l = (InstD.zero, 7)) := Lib.hid (getR_two m1)
        clear m1 hs
        go_enter Try.func4, Try.ntmps4
        go_wp2_with fail
        refine (awake_any _).mono ?_
        rintro e w1 ⟨rfl, hb⟩
        have HB := HB.trans hb
        have HS := Lib.hid (HS.out.mono (IntR.mono _) hb)
        obtain ⟨p0, p1, p2, p3, p4, p5, p6⟩ := box7 HB
        have ne : w.heap.size < w1.heap.size := World.block_lt_of_cell? _ _ p0
        have ne1 : ¬ w.heap.size = w1.heap.size := by omega
        have ne2 : ¬ w1.heap.size = w.heap.size := by omega
        clear hb
        go_wp2_with fail
        refine (put_at op fn dst src reg off imm _ u0 _ _ R0).mono ?_
        rintro e w2 ⟨A0, c0, rfl, s0, hb⟩
        have HB := HB.trans hb
        have HS := Lib.hid (HS.out.mono (IntR.mono _) hb)
        have Hs0 := Lib.hid s0
        clear s0
        obtain ⟨p0, p1, p2, p3, p4, p5, p6⟩ := box7 HB
        have ne : w.heap.size < w2.heap.size := World.block_lt_of_cell? _ _ p0
        have ne1 : ¬ w.heap.size = w2.heap.size := by omega
        have ne2 : ¬ w2.heap.size = w.heap.size := by omega
        clear hb
        go_wp2_with fail
        refine (get_at _ _ _ _ _ Hs0.out (Lib.hid rfl) _ _ G0).mono ?_
        rintro e w3 ⟨rfl, hb⟩
        have HB := HB.trans hb
        have HS := Lib.hid (HS.out.mono (IntR.mono _) hb)
        have Hs0 := Lib.hid (Hs0.out.mono (IntR.mono _) hb)
        obtain ⟨p0, p1, p2, p3, p4, p5, p6⟩ := box7 HB
        have ne : w.heap.size < w3.heap.size := World.block_lt_of_cell? _ _ p0
        have ne1 : ¬ w.heap.size = w3.heap.size := by omega
        have ne2 : ¬ w3.heap.size = w.heap.size := by omega
        clear hb
        go_wp2_with fail
        refine (may_at op fn dst src reg off imm false _ M0).mono ?_
        rintro e w4 ⟨rfl, hb⟩
        replace hb := ((Bel.refl _).alloc _).trans hb
        have HB := HB.trans hb
        have HS := Lib.hid (HS.out.mono (IntR.mono _) hb)
        have Hs0 := Lib.hid (Hs0.out.mono (IntR.mono _) hb)
        obtain ⟨p0, p1, p2, p3, p4, p5, p6⟩ := box7 HB
        have ne : w.heap.size < w4.heap.size := World.block_lt_of_cell? _ _ p0
        have ne1 : ¬ w.heap.size = w4.heap.size := by omega
        have ne2 : ¬ w4.heap.size = w.heap.size := by omega
        clear hb
        go_wp2_with fail
        refine (get_at _ _ _ _ _ HS.out (Lib.hid rfl) _ _ G1).mono ?_
        rintro e w5 ⟨rfl, hb⟩
        have HB := HB.trans hb
        have HS := Lib.hid (HS.out.mono (IntR.mono _) hb)
        have Hs0 := Lib.hid (Hs0.out.mono (IntR.mono _) hb)
        obtain ⟨p0, p1, p2, p3, p4, p5, p6⟩ := box7 HB
        have ne : w.heap.size < w5.heap.size := World.block_lt_of_cell? _ _ p0
        have ne1 : ¬ w.heap.size = w5.heap.size := by omega
        have ne2 : ¬ w5.heap.size = w.heap.size := by omega
        clear hb
        go_wp2
        go_ret
        exact ⟨by first | (simp; done) | (simp; omega), by repeat (first | exact HB.un | exact (HB.alloc _).un | apply Bel.alloc | apply Bel.drewN)⟩
end Go.Proofs.Ytajjodbfbmigkaa
