/- The walk of IsaTells. -/
import Derived.Test.YtkceojfgpmjhhaaRefIsa
set_option linter.unusedVariables false
set_option linter.unusedSimpArgs false
namespace Go.Proofs.Ytkceojfgpmjhhaa
open Go.RowKit
theorem refput_at (op fn dst src : Int) (reg : Bool) (off imm too : Int) (v e : Int) (w : World) (hi : U32 imm) (h : Hid (wput op fn dst src reg off imm too = (v, e))) :
    Calls Try.prog 13 #[.agg #[.int .i64 op, .int .i64 fn, .int .i64 dst, .int .i64 src, .bool reg, .int .i64 off, .int .u32 imm], .int .i64 too] w fun e' w' => e' = .returned (.tuple #[.int .u64 v, .int .i64 e]) ∧ Bel w w' := by
  have := refput_any op fn dst src reg off imm too w hi
  rw [h.out] at this
  exact this
theorem refget_at (x : Int) (op fn dst src : Int) (reg : Bool) (off imm too e : Int) (w : World) (hx : Hid (0 ≤ x ∧ x < 18446744073709551616)) (h : Hid (wget x = (⟨op, fn, dst, src, reg, off, imm⟩, too, e))) :
    Calls Try.prog 15 #[.int .u64 x] w fun e' w' => e' = .returned (.tuple #[.agg #[.int .i64 op, .int .i64 fn, .int .i64 dst, .int .i64 src, .bool reg, .int .i64 off, .int .u32 imm], .int .i64 too, .int .i64 e]) ∧ Bel w w' := by
  have := refget_any x w hx.out.1
  rw [h.out] at this
  exact this
set_option maxHeartbeats 4000000 in
set_option maxRecDepth 100000 in
theorem IsaTells_walk (C : Array Value) (a : InstD) (too x : Int) (w : World) (r0 : InstR w C.toList a) (h1 : (Lit.int .i64 too).wf = true) (h2 : (Lit.int .u64 x).wf = true) :
    Calls Try.prog 3 #[.agg C, .int .i64 too, .int .u64 x] w fun e w' => e = .returned (.bool true) ∧ Bel w w' := by
  have x01 := u64_of_wf h2
  have HX := Lib.hid x01
  clear h1 h2 x01
  obtain ⟨hcs, hwf⟩ := r0
  obtain ⟨op, fn, dst, src, reg, off, imm⟩ := a
  obtain rfl : C = #[.int .i64 op, .int .i64 fn, .int .i64 dst, .int .i64 src, .bool reg, .int .i64 off, .int .u32 imm] := inst_arr hcs
  clear hcs
  have u : U32 imm := hwf.imm
  clear hwf
  have HB := Bel.refl (w.alloc (.cells #[.int .i64 op, .int .i64 fn, .int .i64 dst, .int .i64 src, .bool reg, .int .i64 off, .int .u32 imm] 24))
  obtain ⟨v0, e0, R0⟩ : ∃ v e, Hid (wput op fn dst src reg off imm too = (v, e)) := ⟨_, _, Lib.hid rfl⟩
  obtain ⟨K, t0, g0, G0⟩ : ∃ K t e, Hid (wget x = (K, t, e)) := ⟨_, _, _, Lib.hid rfl⟩
  obtain ⟨kop, kfn, kdst, ksrc, kreg, koff, kimm⟩ := K
  have EQ := inst_eql ⟨kop, kfn, kdst, ksrc, kreg, koff, kimm⟩ ⟨kop, kfn, kdst, ksrc, kreg, koff, kimm⟩ true (Lib.hid (by simp))
  simp only at EQ
  by_cases hm : mayB op fn dst src reg off imm = true
  · have HM := Lib.hid hm
    clear hm
    go_enter Try.func3, Try.ntmps3
    go_wp2_with fail
    refine (awake_any _).mono ?_
    rintro e w1 ⟨rfl, hb⟩
    have HB := HB.trans hb
    obtain ⟨p0, p1, p2, p3, p4, p5, p6⟩ := box7 HB
    have ne : w.heap.size < w1.heap.size := World.block_lt_of_cell? _ _ p0
    have ne1 : ¬ w.heap.size = w1.heap.size := by omega
    have ne2 : ¬ w1.heap.size = w.heap.size := by omega
    clear hb
    go_wp2_with fail
    refine (code_at _ _ _ _ _ _ _ _ _ (Lib.hid rfl) HM).mono ?_
    rintro e w2 ⟨rfl, hb⟩
    have HB := HB.trans hb
    obtain ⟨p0, p1, p2, p3, p4, p5, p6⟩ := box7 HB
    have ne : w.heap.size < w2.heap.size := World.block_lt_of_cell? _ _ p0
    have ne1 : ¬ w.heap.size = w2.heap.size := by omega
    have ne2 : ¬ w2.heap.size = w.heap.size := by omega
    clear hb
    go_wp2_with fail
    refine (refcode_ok _ _ _ _ _ _ _ _ HM.out).mono ?_
    rintro e w3 ⟨rfl, hb⟩
    have HB := HB.trans hb
    obtain ⟨p0, p1, p2, p3, p4, p5, p6⟩ := box7 HB
    have ne : w.heap.size < w3.heap.size := World.block_lt_of_cell? _ _ p0
    have ne1 : ¬ w.heap.size = w3.heap.size := by omega
    have ne2 : ¬ w3.heap.size = w.heap.size := by omega
    clear hb
    go_wp2_with fail
    refine (put_at _ _ _ _ _ _ _ _ _ _ _ u R0).mono ?_
    rintro e w4 ⟨rfl, hb⟩
    have HB := HB.trans hb
    obtain ⟨p0, p1, p2, p3, p4, p5, p6⟩ := box7 HB
    have ne : w.heap.size < w4.heap.size := World.block_lt_of_cell? _ _ p0
    have ne1 : ¬ w.heap.size = w4.heap.size := by omega
    have ne2 : ¬ w4.heap.size = w.heap.size := by omega
    clear hb
    go_wp2_with fail
    refine (refput_at _ _ _ _ _ _ _ _ _ _ _ u R0).mono ?_
    rintro e w5 ⟨rfl, hb⟩
    have HB := HB.trans hb
    obtain ⟨p0, p1, p2, p3, p4, p5, p6⟩ := box7 HB
    have ne : w.heap.size < w5.heap.size := World.block_lt_of_cell? _ _ p0
    have ne1 : ¬ w.heap.size = w5.heap.size := by omega
    have ne2 : ¬ w5.heap.size = w.heap.size := by omega
    clear hb
    go_wp2_with fail
    refine (get_at _ _ _ _ _ _ _ _ _ _ _ HX G0).mono ?_
    rintro e w6 ⟨rfl, hb⟩
    have HB := HB.trans hb
    obtain ⟨p0, p1, p2, p3, p4, p5, p6⟩ := box7 HB
    have ne : w.heap.size < w6.heap.size := World.block_lt_of_cell? _ _ p0
    have ne1 : ¬ w.heap.size = w6.heap.size := by omega
    have ne2 : ¬ w6.heap.size = w.heap.size := by omega
    clear hb
    go_wp2_with fail
    refine (refget_at _ _ _ _ _ _ _ _ _ _ _ HX G0).mono ?_
    rintro e w7 ⟨rfl, hb⟩
    have HY := hb
    obtain ⟨x0, x1, x2, x3, x4, x5, x6⟩ := box7 HY
    have nx : w6.heap.size < w7.heap.size := World.block_lt_of_cell? _ _ x0
    have nx1 : ¬ w6.heap.size = w7.heap.size := by omega
    have nx2 : ¬ w7.heap.size = w6.heap.size := by omega
    replace hb := ((Bel.refl _).alloc _).trans hb
    have HB := HB.trans hb
    obtain ⟨p0, p1, p2, p3, p4, p5, p6⟩ := box7 HB
    have ne : w.heap.size < w7.heap.size := World.block_lt_of_cell? _ _ p0
    have ne1 : ¬ w.heap.size = w7.heap.size := by omega
    have ne2 : ¬ w7.heap.size = w.heap.size := by omega
    clear hb
    go_wp2_with fail
    go_ret
    exact ⟨by first | (simp; done) | (simp; omega), by repeat (first | exact HB.un | exact HB.un.un | apply Bel.alloc | apply Bel.drewN | (refine Bel.setCell ?_ (by first | exact Nat.le_refl _ | (simp; done) | (simp; omega)) _))⟩
  · have HM : Hid (mayB op fn dst src reg off imm = false) := Lib.hid (by simpa using hm)
    clear hm
    go_enter Try.func3, Try.ntmps3
    go_wp2_with fail
    refine (awake_any _).mono ?_
    rintro e w1 ⟨rfl, hb⟩
    have HB := HB.trans hb
    obtain ⟨p0, p1, p2, p3, p4, p5, p6⟩ := box7 HB
    have ne : w.heap.size < w1.heap.size := World.block_lt_of_cell? _ _ p0
    have ne1 : ¬ w.heap.size = w1.heap.size := by omega
    have ne2 : ¬ w1.heap.size = w.heap.size := by omega
    clear hb
    go_wp2_with fail
    refine (codeno_at _ _ _ _ _ _ _ _ HM).mono ?_
    rintro e w2 ⟨rfl, hb⟩
    have HB := HB.trans hb
    obtain ⟨p0, p1, p2, p3, p4, p5, p6⟩ := box7 HB
    have ne : w.heap.size < w2.heap.size := World.block_lt_of_cell? _ _ p0
    have ne1 : ¬ w.heap.size = w2.heap.size := by omega
    have ne2 : ¬ w2.heap.size = w.heap.size := by omega
    clear hb
    go_wp2_with fail
    refine (refcode_no _ _ _ _ _ _ _ _ HM.out).mono ?_
    rintro e w3 ⟨rfl, hb⟩
    have HB := HB.trans hb
    obtain ⟨p0, p1, p2, p3, p4, p5, p6⟩ := box7 HB
    have ne : w.heap.size < w3.heap.size := World.block_lt_of_cell? _ _ p0
    have ne1 : ¬ w.heap.size = w3.heap.size := by omega
    have ne2 : ¬ w3.heap.size = w.heap.size := by omega
    clear hb
    go_wp2_with fail
    refine (put_at _ _ _ _ _ _ _ _ _ _ _ u R0).mono ?_
    rintro e w4 ⟨rfl, hb⟩
    have HB := HB.trans hb
    obtain ⟨p0, p1, p2, p3, p4, p5, p6⟩ := box7 HB
    have ne : w.heap.size < w4.heap.size := World.block_lt_of_cell? _ _ p0
    have ne1 : ¬ w.heap.size = w4.heap.size := by omega
    have ne2 : ¬ w4.heap.size = w.heap.size := by omega
    clear hb
    go_wp2_with fail
    refine (refput_at _ _ _ _ _ _ _ _ _ _ _ u R0).mono ?_
    rintro e w5 ⟨rfl, hb⟩
    have HB := HB.trans hb
    obtain ⟨p0, p1, p2, p3, p4, p5, p6⟩ := box7 HB
    have ne : w.heap.size < w5.heap.size := World.block_lt_of_cell? _ _ p0
    have ne1 : ¬ w.heap.size = w5.heap.size := by omega
    have ne2 : ¬ w5.heap.size = w.heap.size := by omega
    clear hb
    go_wp2_with fail
    refine (get_at _ _ _ _ _ _ _ _ _ _ _ HX G0).mono ?_
    rintro e w6 ⟨rfl, hb⟩
    have HB := HB.trans hb
    obtain ⟨p0, p1, p2, p3, p4, p5, p6⟩ := box7 HB
    have ne : w.heap.size < w6.heap.size := World.block_lt_of_cell? _ _ p0
    have ne1 : ¬ w.heap.size = w6.heap.size := by omega
    have ne2 : ¬ w6.heap.size = w.heap.size := by omega
    clear hb
    go_wp2_with fail
    refine (refget_at _ _ _ _ _ _ _ _ _ _ _ HX G0).mono ?_
    rintro e w7 ⟨rfl, hb⟩
    have HY := hb
    obtain ⟨x0, x1, x2, x3, x4, x5, x6⟩ := box7 HY
    have nx : w6.heap.size < w7.heap.size := World.block_lt_of_cell? _ _ x0
    have nx1 : ¬ w6.heap.size = w7.heap.size := by omega
    have nx2 : ¬ w7.heap.size = w6.heap.size := by omega
    replace hb := ((Bel.refl _).alloc _).trans hb
    have HB := HB.trans hb
    obtain ⟨p0, p1, p2, p3, p4, p5, p6⟩ := box7 HB
    have ne : w.heap.size < w7.heap.size := World.block_lt_of_cell? _ _ p0
    have ne1 : ¬ w.heap.size = w7.heap.size := by omega
    have ne2 : ¬ w7.heap.size = w.heap.size := by omega
    clear hb
    go_wp2_with fail
    go_ret
    exact ⟨by first | (simp; done) | (simp; omega), by repeat (first | exact HB.un | exact HB.un.un | apply Bel.alloc | apply Bel.drewN | (refine Bel.setCell ?_ (by first | exact Nat.le_refl _ | (simp; done) | (simp; omega)) _))⟩
end Go.Proofs.Ytkceojfgpmjhhaa
