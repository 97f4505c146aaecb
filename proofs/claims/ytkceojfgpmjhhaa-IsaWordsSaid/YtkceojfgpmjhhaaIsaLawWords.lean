/- The walk of IsaWords. -/
import Derived.Test.YtkceojfgpmjhhaaIsaCalls
set_option linter.unusedVariables false
set_option linter.unusedSimpArgs false
namespace Go.Proofs.Ytkceojfgpmjhhaa
open Go.RowKit
set_option maxHeartbeats 4000000 in
set_option maxRecDepth 100000 in
theorem IsaWords_walk (C : Array Value) (a : InstD) (ta tb : Int) (w : World) (r0 : InstR w C.toList a) (h1 : (Lit.int .i64 ta).wf = true) (h2 : (Lit.int .i64 tb).wf = true) :
    Calls Try.prog 6 #[.agg C, .int .i64 ta, .int .i64 tb] w fun e w' => e = .returned (.bool true) ∧ Bel w w' := by
  clear h1 h2
  obtain ⟨hcs, hwf⟩ := r0
  obtain ⟨op, fn, dst, src, reg, off, imm⟩ := a
  obtain rfl : C = #[.int .i64 op, .int .i64 fn, .int .i64 dst, .int .i64 src, .bool reg, .int .i64 off, .int .u32 imm] := inst_arr hcs
  clear hcs
  have u : U32 imm := hwf.imm
  clear hwf
  have HB := Bel.refl (w.alloc (.cells #[.int .i64 op, .int .i64 fn, .int .i64 dst, .int .i64 src, .bool reg, .int .i64 off, .int .u32 imm] 24))
  obtain ⟨v0, e0, R0⟩ : ∃ v e, Hid (wput op fn dst src reg off imm ta = (v, e)) := ⟨_, _, Lib.hid rfl⟩
  obtain ⟨v1, e1, R1⟩ : ∃ v e, Hid (wput op fn dst src reg off imm tb = (v, e)) := ⟨_, _, Lib.hid rfl⟩
  rcases wput_ok2 R0.out with ⟨rfl, hm, t0, t1, hg, hv⟩ | ⟨rfl, rfl, _⟩
  · rcases wput_ok2 R1.out with ⟨rfl, _, t2, t3, hg1, hv1⟩ | ⟨rfl, rfl, _⟩
    · obtain ⟨d, s, -⟩ := may_ranges hm
      obtain ⟨hc, -⟩ := code_pat hm
      have m0 : 0 ≤ (if op = 6 then 0 else imm) ∧ (if op = 6 then 0 else imm) < 4294967296 := by have := u.lo; have := u.hi; split <;> omega
      have y0 := word_range hc d s t0 t1 m0.1 m0.2
      have y1 := word_range hc d s t2 t3 m0.1 m0.2
      rw [← hv] at y0
      rw [← hv1] at y1
      obtain ⟨y0a, y0b⟩ := y0
      obtain ⟨y1a, y1b⟩ := y1
      have key : v0 - v1 = (ta - tb) * 4294967296 := by rw [hv, hv1]; unfold wordI; omega
      have k1 : IntKind.i64.wrap v0 = v0 := wrap_i64 (by omega) (by omega)
      have k2 : IntKind.i64.wrap v1 = v1 := wrap_i64 (by omega) (by omega)
      have k3 : IntKind.i64.wrap (v0 - v1) = v0 - v1 := wrap_i64 (by omega) (by omega)
      have k4 : IntKind.i64.wrap (ta - tb) = ta - tb := wrap_i64 (by omega) (by omega)
      have k5 : IntKind.i64.wrap ((ta - tb) * 4294967296) = (ta - tb) * 4294967296 := wrap_i64 (by omega) (by omega)
      have t9 : (v0 - v1 == (ta - tb) * 4294967296) = true := by simpa using key
      clear key hv hv1 m0 d s hc hm
      by_cases g1 : op = 1
      · subst g1
        go_enter Try.func6, Try.ntmps6
        go_wp2_with fail
        refine (awake_any _).mono ?_
        rintro e w1 ⟨rfl, hb⟩
        have HB := HB.trans hb
        obtain ⟨p0, p1, p2, p3, p4, p5, p6⟩ := box7 HB
        have ne : w.heap.size < w1.heap.size := World.block_lt_of_cell? _ _ p0
        have ne1 : ¬ w.heap.size = w1.heap.size := by omega
        have ne2 : ¬ w1.heap.size = w.heap.size := by omega
        clear hb
        go_wp2_with fail
        refine (put_at _ _ _ _ _ _ _ _ _ _ _ u R0).mono ?_
        rintro e w2 ⟨rfl, hb⟩
        have HB := HB.trans hb
        obtain ⟨p0, p1, p2, p3, p4, p5, p6⟩ := box7 HB
        have ne : w.heap.size < w2.heap.size := World.block_lt_of_cell? _ _ p0
        have ne1 : ¬ w.heap.size = w2.heap.size := by omega
        have ne2 : ¬ w2.heap.size = w.heap.size := by omega
        clear hb
        go_wp2_with fail
        refine (put_at _ _ _ _ _ _ _ _ _ _ _ u R1).mono ?_
        rintro e w3 ⟨rfl, hb⟩
        have HB := HB.trans hb
        obtain ⟨p0, p1, p2, p3, p4, p5, p6⟩ := box7 HB
        have ne : w.heap.size < w3.heap.size := World.block_lt_of_cell? _ _ p0
        have ne1 : ¬ w.heap.size = w3.heap.size := by omega
        have ne2 : ¬ w3.heap.size = w.heap.size := by omega
        clear hb
        go_wp2
        go_ret
        exact ⟨by first | (simp; done) | (simp; omega), by repeat (first | exact HB.un | exact HB.un.un | apply Bel.alloc | apply Bel.drewN | (refine Bel.setCell ?_ (by first | exact Nat.le_refl _ | (simp; done) | (simp; omega)) _))⟩
      · have g1' : (op == 1) = false := by simpa using g1
        by_cases g6 : op = 6
        · subst g6
          go_enter Try.func6, Try.ntmps6
          go_wp2_with fail
          refine (awake_any _).mono ?_
          rintro e w1 ⟨rfl, hb⟩
          have HB := HB.trans hb
          obtain ⟨p0, p1, p2, p3, p4, p5, p6⟩ := box7 HB
          have ne : w.heap.size < w1.heap.size := World.block_lt_of_cell? _ _ p0
          have ne1 : ¬ w.heap.size = w1.heap.size := by omega
          have ne2 : ¬ w1.heap.size = w.heap.size := by omega
          clear hb
          go_wp2_with fail
          refine (put_at _ _ _ _ _ _ _ _ _ _ _ u R0).mono ?_
          rintro e w2 ⟨rfl, hb⟩
          have HB := HB.trans hb
          obtain ⟨p0, p1, p2, p3, p4, p5, p6⟩ := box7 HB
          have ne : w.heap.size < w2.heap.size := World.block_lt_of_cell? _ _ p0
          have ne1 : ¬ w.heap.size = w2.heap.size := by omega
          have ne2 : ¬ w2.heap.size = w.heap.size := by omega
          clear hb
          go_wp2_with fail
          refine (put_at _ _ _ _ _ _ _ _ _ _ _ u R1).mono ?_
          rintro e w3 ⟨rfl, hb⟩
          have HB := HB.trans hb
          obtain ⟨p0, p1, p2, p3, p4, p5, p6⟩ := box7 HB
          have ne : w.heap.size < w3.heap.size := World.block_lt_of_cell? _ _ p0
          have ne1 : ¬ w.heap.size = w3.heap.size := by omega
          have ne2 : ¬ w3.heap.size = w.heap.size := by omega
          clear hb
          go_wp2
          go_ret
          exact ⟨by first | (simp; done) | (simp; omega), by repeat (first | exact HB.un | exact HB.un.un | apply Bel.alloc | apply Bel.drewN | (refine Bel.setCell ?_ (by first | exact Nat.le_refl _ | (simp; done) | (simp; omega)) _))⟩
        · have g6' : (op == 6) = false := by simpa using g6
          obtain rfl : ta = 0 := by
            by_cases h : 0 < ta
            · rcases hg h with h | h <;> contradiction
            · omega
          obtain rfl : tb = 0 := by
            by_cases h : 0 < tb
            · rcases hg1 h with h | h <;> contradiction
            · omega
          clear hg hg1
          have t9' : v0 = v1 := by simp at t9; omega
          subst t9'
          clear k3 k4 k5 t9 k2
          go_enter Try.func6, Try.ntmps6
          go_wp2_with fail
          refine (awake_any _).mono ?_
          rintro e w1 ⟨rfl, hb⟩
          have HB := HB.trans hb
          obtain ⟨p0, p1, p2, p3, p4, p5, p6⟩ := box7 HB
          have ne : w.heap.size < w1.heap.size := World.block_lt_of_cell? _ _ p0
          have ne1 : ¬ w.heap.size = w1.heap.size := by omega
          have ne2 : ¬ w1.heap.size = w.heap.size := by omega
          clear hb
          go_wp2_with fail
          refine (put_at _ _ _ _ _ _ _ _ _ _ _ u R0).mono ?_
          rintro e w2 ⟨rfl, hb⟩
          have HB := HB.trans hb
          obtain ⟨p0, p1, p2, p3, p4, p5, p6⟩ := box7 HB
          have ne : w.heap.size < w2.heap.size := World.block_lt_of_cell? _ _ p0
          have ne1 : ¬ w.heap.size = w2.heap.size := by omega
          have ne2 : ¬ w2.heap.size = w.heap.size := by omega
          clear hb
          go_wp2_with fail
          refine (put_at _ _ _ _ _ _ _ _ _ _ _ u R1).mono ?_
          rintro e w3 ⟨rfl, hb⟩
          have HB := HB.trans hb
          obtain ⟨p0, p1, p2, p3, p4, p5, p6⟩ := box7 HB
          have ne : w.heap.size < w3.heap.size := World.block_lt_of_cell? _ _ p0
          have ne1 : ¬ w.heap.size = w3.heap.size := by omega
          have ne2 : ¬ w3.heap.size = w.heap.size := by omega
          clear hb
          go_wp2
          go_ret
          exact ⟨by first | (simp; done) | (simp; omega), by repeat (first | exact HB.un | exact HB.un.un | apply Bel.alloc | apply Bel.drewN | (refine Bel.setCell ?_ (by first | exact Nat.le_refl _ | (simp; done) | (simp; omega)) _))⟩
    · clear hv hm hg
      go_enter Try.func6, Try.ntmps6
      go_wp2_with fail
      refine (awake_any _).mono ?_
      rintro e w1 ⟨rfl, hb⟩
      have HB := HB.trans hb
      obtain ⟨p0, p1, p2, p3, p4, p5, p6⟩ := box7 HB
      have ne : w.heap.size < w1.heap.size := World.block_lt_of_cell? _ _ p0
      have ne1 : ¬ w.heap.size = w1.heap.size := by omega
      have ne2 : ¬ w1.heap.size = w.heap.size := by omega
      clear hb
      go_wp2_with fail
      refine (put_at _ _ _ _ _ _ _ _ _ _ _ u R0).mono ?_
      rintro e w2 ⟨rfl, hb⟩
      have HB := HB.trans hb
      obtain ⟨p0, p1, p2, p3, p4, p5, p6⟩ := box7 HB
      have ne : w.heap.size < w2.heap.size := World.block_lt_of_cell? _ _ p0
      have ne1 : ¬ w.heap.size = w2.heap.size := by omega
      have ne2 : ¬ w2.heap.size = w.heap.size := by omega
      clear hb
      go_wp2_with fail
      refine (put_at _ _ _ _ _ _ _ _ _ _ _ u R1).mono ?_
      rintro e w3 ⟨rfl, hb⟩
      have HB := HB.trans hb
      obtain ⟨p0, p1, p2, p3, p4, p5, p6⟩ := box7 HB
      have ne : w.heap.size < w3.heap.size := World.block_lt_of_cell? _ _ p0
      have ne1 : ¬ w.heap.size = w3.heap.size := by omega
      have ne2 : ¬ w3.heap.size = w.heap.size := by omega
      clear hb
      go_wp2
      go_ret
      exact ⟨by first | (simp; done) | (simp; omega), by repeat (first | exact HB.un | exact HB.un.un | apply Bel.alloc | apply Bel.drewN | (refine Bel.setCell ?_ (by first | exact Nat.le_refl _ | (simp; done) | (simp; omega)) _))⟩
  · go_enter Try.func6, Try.ntmps6
    go_wp2_with fail
    refine (awake_any _).mono ?_
    rintro e w1 ⟨rfl, hb⟩
    have HB := HB.trans hb
    obtain ⟨p0, p1, p2, p3, p4, p5, p6⟩ := box7 HB
    have ne : w.heap.size < w1.heap.size := World.block_lt_of_cell? _ _ p0
    have ne1 : ¬ w.heap.size = w1.heap.size := by omega
    have ne2 : ¬ w1.heap.size = w.heap.size := by omega
    clear hb
    go_wp2_with fail
    refine (put_at _ _ _ _ _ _ _ _ _ _ _ u R0).mono ?_
    rintro e w2 ⟨rfl, hb⟩
    have HB := HB.trans hb
    obtain ⟨p0, p1, p2, p3, p4, p5, p6⟩ := box7 HB
    have ne : w.heap.size < w2.heap.size := World.block_lt_of_cell? _ _ p0
    have ne1 : ¬ w.heap.size = w2.heap.size := by omega
    have ne2 : ¬ w2.heap.size = w.heap.size := by omega
    clear hb
    go_wp2_with fail
    refine (put_at _ _ _ _ _ _ _ _ _ _ _ u R1).mono ?_
    rintro e w3 ⟨rfl, hb⟩
    have HB := HB.trans hb
    obtain ⟨p0, p1, p2, p3, p4, p5, p6⟩ := box7 HB
    have ne : w.heap.size < w3.heap.size := World.block_lt_of_cell? _ _ p0
    have ne1 : ¬ w.heap.size = w3.heap.size := by omega
    have ne2 : ¬ w3.heap.size = w.heap.size := by omega
    clear hb
    go_wp2
    go_ret
    exact ⟨by first | (simp; done) | (simp; omega), by repeat (first | exact HB.un | exact HB.un.un | apply Bel.alloc | apply Bel.drewN | (refine Bel.setCell ?_ (by first | exact Nat.le_refl _ | (simp; done) | (simp; omega)) _))⟩
end Go.Proofs.Ytkceojfgpmjhhaa
