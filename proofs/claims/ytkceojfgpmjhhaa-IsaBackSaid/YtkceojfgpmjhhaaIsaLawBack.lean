/- The walk of IsaBack. -/
import Derived.Test.YtkceojfgpmjhhaaIsaCalls
set_option linter.unusedVariables false
set_option linter.unusedSimpArgs false
namespace Go.Proofs.Ytkceojfgpmjhhaa
open Go.RowKit
set_option maxHeartbeats 4000000 in
set_option maxRecDepth 100000 in
theorem IsaBack_walk (C : Array Value) (a : InstD) (too x : Int) (w : World) (r0 : InstR w C.toList a) (h1 : (Lit.int .i64 too).wf = true) (h2 : (Lit.int .u64 x).wf = true) :
    Calls Try.prog 4 #[.agg C, .int .i64 too, .int .u64 x] w fun e w' => e = .returned (.bool true) ∧ Bel w w' := by
  have x01 := u64_of_wf h2
  have HX := Lib.hid x01
  clear h1 h2 x01
  obtain ⟨hcs, hwf⟩ := r0
  obtain ⟨op, fn, dst, src, reg, off, imm⟩ := a
  obtain rfl : C = #[.int .i64 op, .int .i64 fn, .int .i64 dst, .int .i64 src, .bool reg, .int .i64 off, .int .u32 imm] := inst_arr hcs
  clear hcs
  have u : U32 imm := hwf.imm
  clear hwf
  have HB := Bel.refl (w.alloc (.cells #[.int .i64 op, .int .i64 fn, .int .i64 dst, .int .i64 src, .bool reg, .int .i64 off, .int .u32 imm] 24))
  obtain ⟨v0, e0, R0⟩ : ∃ v e, Hid (wput op fn dst src reg off imm too = (v, e)) := ⟨_, _, Lib.hid rfl⟩
  rcases wput_ok2 R0.out with ⟨rfl, -⟩ | ⟨rfl, rfl, -⟩
  · obtain ⟨g0, g1, g2⟩ := wget_wput u R0.out
    have HV : Hid (0 ≤ v0 ∧ v0 < 18446744073709551616) := Lib.hid ⟨g1, by omega⟩
    clear g1 g2
    by_cases g6 : op = 6
    · subst g6
      rw [if_pos rfl] at g0
      have G0 := Lib.hid g0
      clear g0
      rcases wget_two x with ⟨hr, hk⟩ | ⟨hr, hk⟩
      · have R1 := Lib.hid hr
        clear hr hk
        go_enter Try.func4, Try.ntmps4
        go_wp2_with fail
        refine (awake_any _).mono ?_
        rintro e w1 ⟨rfl, hb⟩
        have HB := HB.trans hb
        obtain ⟨p0, p1, p2, p3, p4, p5, p6⟩ := box7 HB
        have ne : w.heap.size < w1.heap.size := World.block_lt_of_cell? _ _ p0
        have ne1 : ¬ w.heap.size = w1.heap.size := by omega
        have ne2 : ¬ w1.heap.size = w.heap.size := by omega
        clear hb
        go_wp2_with fail
        refine (put_at _ _ _ _ _ _ _ _ _ _ _ u R0).mono ?_
        rintro e w2 ⟨rfl, hb⟩
        have HB := HB.trans hb
        obtain ⟨p0, p1, p2, p3, p4, p5, p6⟩ := box7 HB
        have ne : w.heap.size < w2.heap.size := World.block_lt_of_cell? _ _ p0
        have ne1 : ¬ w.heap.size = w2.heap.size := by omega
        have ne2 : ¬ w2.heap.size = w.heap.size := by omega
        clear hb
        go_wp2_with fail
        refine (get_at _ _ _ _ _ _ _ _ _ _ _ HV G0).mono ?_
        rintro e w3 ⟨rfl, hb⟩
        have HB := HB.trans hb
        obtain ⟨p0, p1, p2, p3, p4, p5, p6⟩ := box7 HB
        have ne : w.heap.size < w3.heap.size := World.block_lt_of_cell? _ _ p0
        have ne1 : ¬ w.heap.size = w3.heap.size := by omega
        have ne2 : ¬ w3.heap.size = w.heap.size := by omega
        clear hb
        go_wp2_with fail
        refine (get_at _ _ _ _ _ _ _ _ _ _ _ HX R1).mono ?_
        rintro e w4 ⟨rfl, hb⟩
        replace hb := ((Bel.refl _).alloc _).trans hb
        replace hb := ((Bel.refl _).alloc _).trans hb
        have HB := HB.trans hb
        obtain ⟨p0, p1, p2, p3, p4, p5, p6⟩ := box7 HB
        have ne : w.heap.size < w4.heap.size := World.block_lt_of_cell? _ _ p0
        have ne1 : ¬ w.heap.size = w4.heap.size := by omega
        have ne2 : ¬ w4.heap.size = w.heap.size := by omega
        clear hb
        go_wp2
        go_ret
        exact ⟨by first | (simp; done) | (simp; omega), by repeat (first | exact HB.un | exact HB.un.un | apply Bel.alloc | apply Bel.drewN | (refine Bel.setCell ?_ (by first | exact Nat.le_refl _ | (simp; done) | (simp; omega)) _))⟩
      · have R1 := Lib.hid hr
        have u1 : U32 (wgetI x).imm := ⟨by show 0 ≤ x % 4294967296; omega, by show x % 4294967296 < 4294967296; omega⟩
        have o1 : (wgetI x).off = 0 := rfl
        have HK := hk.2
        clear hr hk
        generalize wgetI x = I at *
        generalize x / 4294967296 % 1024 = t1 at *
        obtain ⟨op1, fn1, dst1, src1, reg1, off1, imm1⟩ := I
        simp only at u1 o1
        subst o1
        have R2 : Hid (wput op1 fn1 dst1 src1 reg1 0 imm1 t1 = (x, 0)) := Lib.hid HK
        rcases wput_ok2 R2.out with ⟨-, hm1, t1a, t1b, -⟩ | ⟨h, -⟩
        · have M1 := Lib.hid hm1
          clear hm1 HK
          go_enter Try.func4, Try.ntmps4
          go_wp2_with fail
          refine (awake_any _).mono ?_
          rintro e w1 ⟨rfl, hb⟩
          have HB := HB.trans hb
          obtain ⟨p0, p1, p2, p3, p4, p5, p6⟩ := box7 HB
          have ne : w.heap.size < w1.heap.size := World.block_lt_of_cell? _ _ p0
          have ne1 : ¬ w.heap.size = w1.heap.size := by omega
          have ne2 : ¬ w1.heap.size = w.heap.size := by omega
          clear hb
          go_wp2_with fail
          refine (put_at _ _ _ _ _ _ _ _ _ _ _ u R0).mono ?_
          rintro e w2 ⟨rfl, hb⟩
          have HB := HB.trans hb
          obtain ⟨p0, p1, p2, p3, p4, p5, p6⟩ := box7 HB
          have ne : w.heap.size < w2.heap.size := World.block_lt_of_cell? _ _ p0
          have ne1 : ¬ w.heap.size = w2.heap.size := by omega
          have ne2 : ¬ w2.heap.size = w.heap.size := by omega
          clear hb
          go_wp2_with fail
          refine (get_at _ _ _ _ _ _ _ _ _ _ _ HV G0).mono ?_
          rintro e w3 ⟨rfl, hb⟩
          have HB := HB.trans hb
          obtain ⟨p0, p1, p2, p3, p4, p5, p6⟩ := box7 HB
          have ne : w.heap.size < w3.heap.size := World.block_lt_of_cell? _ _ p0
          have ne1 : ¬ w.heap.size = w3.heap.size := by omega
          have ne2 : ¬ w3.heap.size = w.heap.size := by omega
          clear hb
          go_wp2_with fail
          refine (get_at _ _ _ _ _ _ _ _ _ _ _ HX R1).mono ?_
          rintro e w4 ⟨rfl, hb⟩
          replace hb := ((Bel.refl _).alloc _).trans hb
          replace hb := ((Bel.refl _).alloc _).trans hb
          have HB := HB.trans hb
          obtain ⟨p0, p1, p2, p3, p4, p5, p6⟩ := box7 HB
          have ne : w.heap.size < w4.heap.size := World.block_lt_of_cell? _ _ p0
          have ne1 : ¬ w.heap.size = w4.heap.size := by omega
          have ne2 : ¬ w4.heap.size = w.heap.size := by omega
          clear hb
          go_wp2_with fail
          refine (put_at _ _ _ _ _ _ _ _ _ _ _ u1 R2).mono ?_
          rintro e w5 ⟨rfl, hb⟩
          have HY := hb
          obtain ⟨q0, q1, q2, q3, q4, q5, q6⟩ := box7 HY
          replace hb := ((Bel.refl _).alloc _).trans hb
          have HB := HB.trans hb
          obtain ⟨p0, p1, p2, p3, p4, p5, p6⟩ := box7 HB
          have ne : w.heap.size < w5.heap.size := World.block_lt_of_cell? _ _ p0
          have ne1 : ¬ w.heap.size = w5.heap.size := by omega
          have ne2 : ¬ w5.heap.size = w.heap.size := by omega
          clear hb
          go_wp2_with fail
          refine (may_at _ _ _ _ _ _ _ _ _ M1).mono ?_
          rintro e w6 ⟨rfl, hb⟩
          have HY := HY.trans hb
          obtain ⟨q0, q1, q2, q3, q4, q5, q6⟩ := box7 HY
          have HB := HB.trans hb
          obtain ⟨p0, p1, p2, p3, p4, p5, p6⟩ := box7 HB
          have ne : w.heap.size < w6.heap.size := World.block_lt_of_cell? _ _ p0
          have ne1 : ¬ w.heap.size = w6.heap.size := by omega
          have ne2 : ¬ w6.heap.size = w.heap.size := by omega
          clear hb
          go_wp2
          go_ret
          exact ⟨by first | (simp; done) | (simp; omega), by repeat (first | exact HB.un | exact HB.un.un | apply Bel.alloc | apply Bel.drewN | (refine Bel.setCell ?_ (by first | exact Nat.le_refl _ | (simp; done) | (simp; omega)) _))⟩
        · cases h
    · have g6' : (op == 6) = false := by simpa using g6
      rw [if_neg g6] at g0
      have G0 := Lib.hid g0
      clear g0
      rcases wget_two x with ⟨hr, hk⟩ | ⟨hr, hk⟩
      · have R1 := Lib.hid hr
        clear hr hk
        go_enter Try.func4, Try.ntmps4
        go_wp2_with fail
        refine (awake_any _).mono ?_
        rintro e w1 ⟨rfl, hb⟩
        have HB := HB.trans hb
        obtain ⟨p0, p1, p2, p3, p4, p5, p6⟩ := box7 HB
        have ne : w.heap.size < w1.heap.size := World.block_lt_of_cell? _ _ p0
        have ne1 : ¬ w.heap.size = w1.heap.size := by omega
        have ne2 : ¬ w1.heap.size = w.heap.size := by omega
        clear hb
        go_wp2_with fail
        refine (put_at _ _ _ _ _ _ _ _ _ _ _ u R0).mono ?_
        rintro e w2 ⟨rfl, hb⟩
        have HB := HB.trans hb
        obtain ⟨p0, p1, p2, p3, p4, p5, p6⟩ := box7 HB
        have ne : w.heap.size < w2.heap.size := World.block_lt_of_cell? _ _ p0
        have ne1 : ¬ w.heap.size = w2.heap.size := by omega
        have ne2 : ¬ w2.heap.size = w.heap.size := by omega
        clear hb
        go_wp2_with fail
        refine (get_at _ _ _ _ _ _ _ _ _ _ _ HV G0).mono ?_
        rintro e w3 ⟨rfl, hb⟩
        have HB := HB.trans hb
        obtain ⟨p0, p1, p2, p3, p4, p5, p6⟩ := box7 HB
        have ne : w.heap.size < w3.heap.size := World.block_lt_of_cell? _ _ p0
        have ne1 : ¬ w.heap.size = w3.heap.size := by omega
        have ne2 : ¬ w3.heap.size = w.heap.size := by omega
        clear hb
        go_wp2_with fail
        refine (get_at _ _ _ _ _ _ _ _ _ _ _ HX R1).mono ?_
        rintro e w4 ⟨rfl, hb⟩
        replace hb := ((Bel.refl _).alloc _).trans hb
        replace hb := ((Bel.refl _).alloc _).trans hb
        have HB := HB.trans hb
        obtain ⟨p0, p1, p2, p3, p4, p5, p6⟩ := box7 HB
        have ne : w.heap.size < w4.heap.size := World.block_lt_of_cell? _ _ p0
        have ne1 : ¬ w.heap.size = w4.heap.size := by omega
        have ne2 : ¬ w4.heap.size = w.heap.size := by omega
        clear hb
        go_wp2
        go_ret
        exact ⟨by first | (simp; done) | (simp; omega), by repeat (first | exact HB.un | exact HB.un.un | apply Bel.alloc | apply Bel.drewN | (refine Bel.setCell ?_ (by first | exact Nat.le_refl _ | (simp; done) | (simp; omega)) _))⟩
      · have R1 := Lib.hid hr
        have u1 : U32 (wgetI x).imm := ⟨by show 0 ≤ x % 4294967296; omega, by show x % 4294967296 < 4294967296; omega⟩
        have o1 : (wgetI x).off = 0 := rfl
        have HK := hk.2
        clear hr hk
        generalize wgetI x = I at *
        generalize x / 4294967296 % 1024 = t1 at *
        obtain ⟨op1, fn1, dst1, src1, reg1, off1, imm1⟩ := I
        simp only at u1 o1
        subst o1
        have R2 : Hid (wput op1 fn1 dst1 src1 reg1 0 imm1 t1 = (x, 0)) := Lib.hid HK
        rcases wput_ok2 R2.out with ⟨-, hm1, t1a, t1b, -⟩ | ⟨h, -⟩
        · have M1 := Lib.hid hm1
          clear hm1 HK
          go_enter Try.func4, Try.ntmps4
          go_wp2_with fail
          refine (awake_any _).mono ?_
          rintro e w1 ⟨rfl, hb⟩
          have HB := HB.trans hb
          obtain ⟨p0, p1, p2, p3, p4, p5, p6⟩ := box7 HB
          have ne : w.heap.size < w1.heap.size := World.block_lt_of_cell? _ _ p0
          have ne1 : ¬ w.heap.size = w1.heap.size := by omega
          have ne2 : ¬ w1.heap.size = w.heap.size := by omega
          clear hb
          go_wp2_with fail
          refine (put_at _ _ _ _ _ _ _ _ _ _ _ u R0).mono ?_
          rintro e w2 ⟨rfl, hb⟩
          have HB := HB.trans hb
          obtain ⟨p0, p1, p2, p3, p4, p5, p6⟩ := box7 HB
          have ne : w.heap.size < w2.heap.size := World.block_lt_of_cell? _ _ p0
          have ne1 : ¬ w.heap.size = w2.heap.size := by omega
          have ne2 : ¬ w2.heap.size = w.heap.size := by omega
          clear hb
          go_wp2_with fail
          refine (get_at _ _ _ _ _ _ _ _ _ _ _ HV G0).mono ?_
          rintro e w3 ⟨rfl, hb⟩
          have HB := HB.trans hb
          obtain ⟨p0, p1, p2, p3, p4, p5, p6⟩ := box7 HB
          have ne : w.heap.size < w3.heap.size := World.block_lt_of_cell? _ _ p0
          have ne1 : ¬ w.heap.size = w3.heap.size := by omega
          have ne2 : ¬ w3.heap.size = w.heap.size := by omega
          clear hb
          go_wp2_with fail
          refine (get_at _ _ _ _ _ _ _ _ _ _ _ HX R1).mono ?_
          rintro e w4 ⟨rfl, hb⟩
          replace hb := ((Bel.refl _).alloc _).trans hb
          replace hb := ((Bel.refl _).alloc _).trans hb
          have HB := HB.trans hb
          obtain ⟨p0, p1, p2, p3, p4, p5, p6⟩ := box7 HB
          have ne : w.heap.size < w4.heap.size := World.block_lt_of_cell? _ _ p0
          have ne1 : ¬ w.heap.size = w4.heap.size := by omega
          have ne2 : ¬ w4.heap.size = w.heap.size := by omega
          clear hb
          go_wp2_with fail
          refine (put_at _ _ _ _ _ _ _ _ _ _ _ u1 R2).mono ?_
          rintro e w5 ⟨rfl, hb⟩
          have HY := hb
          obtain ⟨q0, q1, q2, q3, q4, q5, q6⟩ := box7 HY
          replace hb := ((Bel.refl _).alloc _).trans hb
          have HB := HB.trans hb
          obtain ⟨p0, p1, p2, p3, p4, p5, p6⟩ := box7 HB
          have ne : w.heap.size < w5.heap.size := World.block_lt_of_cell? _ _ p0
          have ne1 : ¬ w.heap.size = w5.heap.size := by omega
          have ne2 : ¬ w5.heap.size = w.heap.size := by omega
          clear hb
          go_wp2_with fail
          refine (may_at _ _ _ _ _ _ _ _ _ M1).mono ?_
          rintro e w6 ⟨rfl, hb⟩
          have HY := HY.trans hb
          obtain ⟨q0, q1, q2, q3, q4, q5, q6⟩ := box7 HY
          have HB := HB.trans hb
          obtain ⟨p0, p1, p2, p3, p4, p5, p6⟩ := box7 HB
          have ne : w.heap.size < w6.heap.size := World.block_lt_of_cell? _ _ p0
          have ne1 : ¬ w.heap.size = w6.heap.size := by omega
          have ne2 : ¬ w6.heap.size = w.heap.size := by omega
          clear hb
          go_wp2
          go_ret
          exact ⟨by first | (simp; done) | (simp; omega), by repeat (first | exact HB.un | exact HB.un.un | apply Bel.alloc | apply Bel.drewN | (refine Bel.setCell ?_ (by first | exact Nat.le_refl _ | (simp; done) | (simp; omega)) _))⟩
        · cases h
  · rcases wget_two x with ⟨hr, hk⟩ | ⟨hr, hk⟩
    · have R1 := Lib.hid hr
      clear hr hk
      go_enter Try.func4, Try.ntmps4
      go_wp2_with fail
      refine (awake_any _).mono ?_
      rintro e w1 ⟨rfl, hb⟩
      have HB := HB.trans hb
      obtain ⟨p0, p1, p2, p3, p4, p5, p6⟩ := box7 HB
      have ne : w.heap.size < w1.heap.size := World.block_lt_of_cell? _ _ p0
      have ne1 : ¬ w.heap.size = w1.heap.size := by omega
      have ne2 : ¬ w1.heap.size = w.heap.size := by omega
      clear hb
      go_wp2_with fail
      refine (put_at _ _ _ _ _ _ _ _ _ _ _ u R0).mono ?_
      rintro e w2 ⟨rfl, hb⟩
      have HB := HB.trans hb
      obtain ⟨p0, p1, p2, p3, p4, p5, p6⟩ := box7 HB
      have ne : w.heap.size < w2.heap.size := World.block_lt_of_cell? _ _ p0
      have ne1 : ¬ w.heap.size = w2.heap.size := by omega
      have ne2 : ¬ w2.heap.size = w.heap.size := by omega
      clear hb
      go_wp2_with fail
      refine (get_at _ _ _ _ _ _ _ _ _ _ _ HX R1).mono ?_
      rintro e w3 ⟨rfl, hb⟩
      have HB := HB.trans hb
      obtain ⟨p0, p1, p2, p3, p4, p5, p6⟩ := box7 HB
      have ne : w.heap.size < w3.heap.size := World.block_lt_of_cell? _ _ p0
      have ne1 : ¬ w.heap.size = w3.heap.size := by omega
      have ne2 : ¬ w3.heap.size = w.heap.size := by omega
      clear hb
      go_wp2
      go_ret
      exact ⟨by first | (simp; done) | (simp; omega), by repeat (first | exact HB.un | exact HB.un.un | apply Bel.alloc | apply Bel.drewN | (refine Bel.setCell ?_ (by first | exact Nat.le_refl _ | (simp; done) | (simp; omega)) _))⟩
    · have R1 := Lib.hid hr
      have u1 : U32 (wgetI x).imm := ⟨by show 0 ≤ x % 4294967296; omega, by show x % 4294967296 < 4294967296; omega⟩
      have o1 : (wgetI x).off = 0 := rfl
      have HK := hk.2
      clear hr hk
      generalize wgetI x = I at *
      generalize x / 4294967296 % 1024 = t1 at *
      obtain ⟨op1, fn1, dst1, src1, reg1, off1, imm1⟩ := I
      simp only at u1 o1
      subst o1
      have R2 : Hid (wput op1 fn1 dst1 src1 reg1 0 imm1 t1 = (x, 0)) := Lib.hid HK
      rcases wput_ok2 R2.out with ⟨-, hm1, t1a, t1b, -⟩ | ⟨h, -⟩
      · have M1 := Lib.hid hm1
        clear hm1 HK
        go_enter Try.func4, Try.ntmps4
        go_wp2_with fail
        refine (awake_any _).mono ?_
        rintro e w1 ⟨rfl, hb⟩
        have HB := HB.trans hb
        obtain ⟨p0, p1, p2, p3, p4, p5, p6⟩ := box7 HB
        have ne : w.heap.size < w1.heap.size := World.block_lt_of_cell? _ _ p0
        have ne1 : ¬ w.heap.size = w1.heap.size := by omega
        have ne2 : ¬ w1.heap.size = w.heap.size := by omega
        clear hb
        go_wp2_with fail
        refine (put_at _ _ _ _ _ _ _ _ _ _ _ u R0).mono ?_
        rintro e w2 ⟨rfl, hb⟩
        have HB := HB.trans hb
        obtain ⟨p0, p1, p2, p3, p4, p5, p6⟩ := box7 HB
        have ne : w.heap.size < w2.heap.size := World.block_lt_of_cell? _ _ p0
        have ne1 : ¬ w.heap.size = w2.heap.size := by omega
        have ne2 : ¬ w2.heap.size = w.heap.size := by omega
        clear hb
        go_wp2_with fail
        refine (get_at _ _ _ _ _ _ _ _ _ _ _ HX R1).mono ?_
        rintro e w3 ⟨rfl, hb⟩
        have HB := HB.trans hb
        obtain ⟨p0, p1, p2, p3, p4, p5, p6⟩ := box7 HB
        have ne : w.heap.size < w3.heap.size := World.block_lt_of_cell? _ _ p0
        have ne1 : ¬ w.heap.size = w3.heap.size := by omega
        have ne2 : ¬ w3.heap.size = w.heap.size := by omega
        clear hb
        go_wp2_with fail
        refine (put_at _ _ _ _ _ _ _ _ _ _ _ u1 R2).mono ?_
        rintro e w4 ⟨rfl, hb⟩
        have HY := hb
        obtain ⟨q0, q1, q2, q3, q4, q5, q6⟩ := box7 HY
        replace hb := ((Bel.refl _).alloc _).trans hb
        have HB := HB.trans hb
        obtain ⟨p0, p1, p2, p3, p4, p5, p6⟩ := box7 HB
        have ne : w.heap.size < w4.heap.size := World.block_lt_of_cell? _ _ p0
        have ne1 : ¬ w.heap.size = w4.heap.size := by omega
        have ne2 : ¬ w4.heap.size = w.heap.size := by omega
        clear hb
        go_wp2_with fail
        refine (may_at _ _ _ _ _ _ _ _ _ M1).mono ?_
        rintro e w5 ⟨rfl, hb⟩
        have HY := HY.trans hb
        obtain ⟨q0, q1, q2, q3, q4, q5, q6⟩ := box7 HY
        have HB := HB.trans hb
        obtain ⟨p0, p1, p2, p3, p4, p5, p6⟩ := box7 HB
        have ne : w.heap.size < w5.heap.size := World.block_lt_of_cell? _ _ p0
        have ne1 : ¬ w.heap.size = w5.heap.size := by omega
        have ne2 : ¬ w5.heap.size = w.heap.size := by omega
        clear hb
        go_wp2
        go_ret
        exact ⟨by first | (simp; done) | (simp; omega), by repeat (first | exact HB.un | exact HB.un.un | apply Bel.alloc | apply Bel.drewN | (refine Bel.setCell ?_ (by first | exact Nat.le_refl _ | (simp; done) | (simp; omega)) _))⟩
      · cases h
end Go.Proofs.Ytkceojfgpmjhhaa
