/- The walk of IsaFields. -/
import Derived.Test.YtkceojfgpmjhhaaIsaCalls
set_option linter.unusedVariables false
set_option linter.unusedSimpArgs false
namespace Go.Proofs.Ytkceojfgpmjhhaa
open Go.RowKit
set_option maxHeartbeats 4000000 in
set_option maxRecDepth 100000 in
theorem IsaFields_walk (C : Array Value) (a : InstD) (too : Int) (w : World) (r0 : InstR w C.toList a) (h1 : (Lit.int .i64 too).wf = true) :
    Calls Try.prog 8 #[.agg C, .int .i64 too] w fun e w' => e = .returned (.bool true) ∧ Bel w w' := by
  clear h1
  obtain ⟨hcs, hwf⟩ := r0
  obtain ⟨op, fn, dst, src, reg, off, imm⟩ := a
  obtain rfl : C = #[.int .i64 op, .int .i64 fn, .int .i64 dst, .int .i64 src, .bool reg, .int .i64 off, .int .u32 imm] := inst_arr hcs
  clear hcs
  have u : U32 imm := hwf.imm
  clear hwf
  have HB := Bel.refl (w.alloc (.cells #[.int .i64 op, .int .i64 fn, .int .i64 dst, .int .i64 src, .bool reg, .int .i64 off, .int .u32 imm] 24))
  obtain ⟨v0, e0, R0⟩ : ∃ v e, Hid (wput op fn dst src reg off imm too = (v, e)) := ⟨_, _, Lib.hid rfl⟩
  rcases wput_ok2 R0.out with ⟨rfl, hm, t0, t1, hg, hv⟩ | ⟨rfl, rfl, _⟩
  · obtain ⟨d, s, -⟩ := may_ranges hm
    obtain ⟨hc, -⟩ := code_pat hm
    have HM := Lib.hid hm
    have u1 := u.lo
    have u2 := u.hi
    have m0 : 0 ≤ (if op = 6 then 0 else imm) ∧ (if op = 6 then 0 else imm) < 4294967296 := by split <;> omega
    have y0 := word_range hc d s t0 t1 m0.1 m0.2
    obtain ⟨z1, z2, z3, z4, z5⟩ := word_parts hc d s t0 t1 m0.1 m0.2
    rw [← hv] at y0 z1 z2 z3 z4 z5
    obtain ⟨y0a, y0b⟩ := y0
    obtain ⟨c0, HC⟩ : ∃ c0, Hid (codeN op fn reg = c0) := ⟨_, Lib.hid rfl⟩
    rw [HC.out] at z1 hc
    have k1 : IntKind.i64.wrap v0 = v0 := wrap_i64 (by omega) (by omega)
    have k2 : IntKind.i64.wrap imm = imm := wrap_i64 (by omega) (by omega)
    have w1' : v0.tdiv 281474976710656 = c0 := by rw [Int.tdiv_eq_ediv_of_nonneg y0a]; exact z1
    have w2a : v0.tdiv 35184372088832 = v0 / 35184372088832 := Int.tdiv_eq_ediv_of_nonneg y0a
    have w2b : (v0 / 35184372088832).tmod 8 = dst := by rw [Int.tmod_eq_emod_of_nonneg (by omega)]; exact z2
    have w3a : v0.tdiv 4398046511104 = v0 / 4398046511104 := Int.tdiv_eq_ediv_of_nonneg y0a
    have w3b : (v0 / 4398046511104).tmod 8 = src := by rw [Int.tmod_eq_emod_of_nonneg (by omega)]; exact z3
    have w4a : v0.tdiv 4294967296 = v0 / 4294967296 := Int.tdiv_eq_ediv_of_nonneg y0a
    have w4b : (v0 / 4294967296).tmod 1024 = too := by rw [Int.tmod_eq_emod_of_nonneg (by omega)]; exact z4
    have w5a : v0.tmod 4294967296 = if op = 6 then 0 else imm := by rw [Int.tmod_eq_emod_of_nonneg y0a]; exact z5
    have n1 : IntKind.i64.wrap (v0 / 281474976710656) = v0 / 281474976710656 := wrap_i64 (by omega) (by omega)
    have n2 : IntKind.i64.wrap (v0 / 35184372088832) = v0 / 35184372088832 := wrap_i64 (by omega) (by omega)
    have n3 : IntKind.i64.wrap (v0 / 4398046511104) = v0 / 4398046511104 := wrap_i64 (by omega) (by omega)
    have n4 : IntKind.i64.wrap (v0 / 4294967296) = v0 / 4294967296 := wrap_i64 (by omega) (by omega)
    have n5 : IntKind.i64.wrap (c0 : Int) = c0 := wrap_i64 (by omega) (by omega)
    clear hv hm
    by_cases g6 : op = 6
    · subst g6
      rw [if_pos rfl] at w5a z5
      go_enter Try.func8, Try.ntmps8
      go_wp2_with fail
      refine (awake_any _).mono ?_
      rintro e w1 ⟨rfl, hb⟩
      have HB := HB.trans hb
      obtain ⟨p0, p1, p2, p3, p4, p5, p6⟩ := box7 HB
      have ne : w.heap.size < w1.heap.size := World.block_lt_of_cell? _ _ p0
      have ne1 : ¬ w.heap.size = w1.heap.size := by omega
      have ne2 : ¬ w1.heap.size = w.heap.size := by omega
      clear hb
      go_wp2_with fail
      refine (put_at _ _ _ _ _ _ _ _ _ _ _ u R0).mono ?_
      rintro e w2 ⟨rfl, hb⟩
      have HB := HB.trans hb
      obtain ⟨p0, p1, p2, p3, p4, p5, p6⟩ := box7 HB
      have ne : w.heap.size < w2.heap.size := World.block_lt_of_cell? _ _ p0
      have ne1 : ¬ w.heap.size = w2.heap.size := by omega
      have ne2 : ¬ w2.heap.size = w.heap.size := by omega
      clear hb
      go_wp2_with fail
      refine (code_at _ _ _ _ _ _ _ _ _ HC HM).mono ?_
      rintro e w3 ⟨rfl, hb⟩
      have HB := HB.trans hb
      obtain ⟨p0, p1, p2, p3, p4, p5, p6⟩ := box7 HB
      have ne : w.heap.size < w3.heap.size := World.block_lt_of_cell? _ _ p0
      have ne1 : ¬ w.heap.size = w3.heap.size := by omega
      have ne2 : ¬ w3.heap.size = w.heap.size := by omega
      clear hb
      go_wp2
      go_ret
      exact ⟨by first | (simp; done) | (simp; omega), by repeat (first | exact HB.un | exact HB.un.un | apply Bel.alloc | apply Bel.drewN | (refine Bel.setCell ?_ (by first | exact Nat.le_refl _ | (simp; done) | (simp; omega)) _))⟩
    · have g6' : (op == 6) = false := by simpa using g6
      rw [if_neg g6] at w5a z5
      go_enter Try.func8, Try.ntmps8
      go_wp2_with fail
      refine (awake_any _).mono ?_
      rintro e w1 ⟨rfl, hb⟩
      have HB := HB.trans hb
      obtain ⟨p0, p1, p2, p3, p4, p5, p6⟩ := box7 HB
      have ne : w.heap.size < w1.heap.size := World.block_lt_of_cell? _ _ p0
      have ne1 : ¬ w.heap.size = w1.heap.size := by omega
      have ne2 : ¬ w1.heap.size = w.heap.size := by omega
      clear hb
      go_wp2_with fail
      refine (put_at _ _ _ _ _ _ _ _ _ _ _ u R0).mono ?_
      rintro e w2 ⟨rfl, hb⟩
      have HB := HB.trans hb
      obtain ⟨p0, p1, p2, p3, p4, p5, p6⟩ := box7 HB
      have ne : w.heap.size < w2.heap.size := World.block_lt_of_cell? _ _ p0
      have ne1 : ¬ w.heap.size = w2.heap.size := by omega
      have ne2 : ¬ w2.heap.size = w.heap.size := by omega
      clear hb
      go_wp2_with fail
      refine (code_at _ _ _ _ _ _ _ _ _ HC HM).mono ?_
      rintro e w3 ⟨rfl, hb⟩
      have HB := HB.trans hb
      obtain ⟨p0, p1, p2, p3, p4, p5, p6⟩ := box7 HB
      have ne : w.heap.size < w3.heap.size := World.block_lt_of_cell? _ _ p0
      have ne1 : ¬ w.heap.size = w3.heap.size := by omega
      have ne2 : ¬ w3.heap.size = w.heap.size := by omega
      clear hb
      go_wp2
      go_ret
      exact ⟨by first | (simp; done) | (simp; omega), by repeat (first | exact HB.un | exact HB.un.un | apply Bel.alloc | apply Bel.drewN | (refine Bel.setCell ?_ (by first | exact Nat.le_refl _ | (simp; done) | (simp; omega)) _))⟩
  · by_cases hm : mayB op fn dst src reg off imm = true
    · have HM := Lib.hid hm
      clear hm
      go_enter Try.func8, Try.ntmps8
      go_wp2_with fail
      refine (awake_any _).mono ?_
      rintro e w1 ⟨rfl, hb⟩
      have HB := HB.trans hb
      obtain ⟨p0, p1, p2, p3, p4, p5, p6⟩ := box7 HB
      have ne : w.heap.size < w1.heap.size := World.block_lt_of_cell? _ _ p0
      have ne1 : ¬ w.heap.size = w1.heap.size := by omega
      have ne2 : ¬ w1.heap.size = w.heap.size := by omega
      clear hb
      go_wp2_with fail
      refine (put_at _ _ _ _ _ _ _ _ _ _ _ u R0).mono ?_
      rintro e w2 ⟨rfl, hb⟩
      have HB := HB.trans hb
      obtain ⟨p0, p1, p2, p3, p4, p5, p6⟩ := box7 HB
      have ne : w.heap.size < w2.heap.size := World.block_lt_of_cell? _ _ p0
      have ne1 : ¬ w.heap.size = w2.heap.size := by omega
      have ne2 : ¬ w2.heap.size = w.heap.size := by omega
      clear hb
      go_wp2_with fail
      refine (code_at _ _ _ _ _ _ _ _ _ (Lib.hid rfl) HM).mono ?_
      rintro e w3 ⟨rfl, hb⟩
      have HB := HB.trans hb
      obtain ⟨p0, p1, p2, p3, p4, p5, p6⟩ := box7 HB
      have ne : w.heap.size < w3.heap.size := World.block_lt_of_cell? _ _ p0
      have ne1 : ¬ w.heap.size = w3.heap.size := by omega
      have ne2 : ¬ w3.heap.size = w.heap.size := by omega
      clear hb
      go_wp2
      go_ret
      exact ⟨by first | (simp; done) | (simp; omega), by repeat (first | exact HB.un | exact HB.un.un | apply Bel.alloc | apply Bel.drewN | (refine Bel.setCell ?_ (by first | exact Nat.le_refl _ | (simp; done) | (simp; omega)) _))⟩
    · have HM : Hid (mayB op fn dst src reg off imm = false) := Lib.hid (by simpa using hm)
      clear hm
      go_enter Try.func8, Try.ntmps8
      go_wp2_with fail
      refine (awake_any _).mono ?_
      rintro e w1 ⟨rfl, hb⟩
      have HB := HB.trans hb
      obtain ⟨p0, p1, p2, p3, p4, p5, p6⟩ := box7 HB
      have ne : w.heap.size < w1.heap.size := World.block_lt_of_cell? _ _ p0
      have ne1 : ¬ w.heap.size = w1.heap.size := by omega
      have ne2 : ¬ w1.heap.size = w.heap.size := by omega
      clear hb
      go_wp2_with fail
      refine (put_at _ _ _ _ _ _ _ _ _ _ _ u R0).mono ?_
      rintro e w2 ⟨rfl, hb⟩
      have HB := HB.trans hb
      obtain ⟨p0, p1, p2, p3, p4, p5, p6⟩ := box7 HB
      have ne : w.heap.size < w2.heap.size := World.block_lt_of_cell? _ _ p0
      have ne1 : ¬ w.heap.size = w2.heap.size := by omega
      have ne2 : ¬ w2.heap.size = w.heap.size := by omega
      clear hb
      go_wp2_with fail
      refine (codeno_at _ _ _ _ _ _ _ _ HM).mono ?_
      rintro e w3 ⟨rfl, hb⟩
      have HB := HB.trans hb
      obtain ⟨p0, p1, p2, p3, p4, p5, p6⟩ := box7 HB
      have ne : w.heap.size < w3.heap.size := World.block_lt_of_cell? _ _ p0
      have ne1 : ¬ w.heap.size = w3.heap.size := by omega
      have ne2 : ¬ w3.heap.size = w.heap.size := by omega
      clear hb
      go_wp2
      go_ret
      exact ⟨by first | (simp; done) | (simp; omega), by repeat (first | exact HB.un | exact HB.un.un | apply Bel.alloc | apply Bel.drewN | (refine Bel.setCell ?_ (by first | exact Nat.le_refl _ | (simp; done) | (simp; omega)) _))⟩
end Go.Proofs.Ytkceojfgpmjhhaa
