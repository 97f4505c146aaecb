/- The walk of IsaBits. -/
import Derived.Test.YtkceojfgpmjhhaaIsaCalls
set_option linter.unusedVariables false
set_option linter.unusedSimpArgs false
namespace Go.Proofs.Ytkceojfgpmjhhaa
open Go.RowKit
theorem shl_range (n : Nat) (h : n ≤ 63) : 0 < (2 : Int) ^ n ∧ (2 : Int) ^ n < 18446744073709551616 := by
  refine ⟨Int.pow_pos (by decide), ?_⟩
  have h1 : 2 ^ n ≤ 2 ^ 63 := Nat.pow_le_pow_right (by decide) h
  have h2 : (2 : Nat) ^ 63 = 9223372036854775808 := by decide
  have h3 : ((2 ^ n : Nat) : Int) = (2 : Int) ^ n := by simp
  omega
set_option maxHeartbeats 4000000 in
set_option maxRecDepth 100000 in
theorem IsaBits_walk (x b : Int) (w : World) (h1 : (Lit.int .u64 x).wf = true) (h2 : (Lit.int .i64 b).wf = true) :
    Calls Try.prog 7 #[.int .u64 x, .int .i64 b] w fun e w' => e = .returned (.bool true) ∧ Bel w w' := by
  have x01 := u64_of_wf h1
  have HX := Lib.hid x01
  obtain ⟨x0, x1⟩ := x01
  clear h1 h2
  have HB := Bel.refl w
  by_cases b0 : b < 0
  · go_enter Try.func7, Try.ntmps7
    go_wp2_with fail
    refine (awake_any _).mono ?_
    rintro e w1 ⟨rfl, hb⟩
    have HB := HB.trans hb
    clear hb
    go_wp2
    go_ret
    exact ⟨by first | (simp; done) | (simp; omega), by repeat (first | exact HB | apply Bel.alloc | apply Bel.drewN)⟩
  · by_cases b1 : 63 < b
    · go_enter Try.func7, Try.ntmps7
      go_wp2_with fail
      refine (awake_any _).mono ?_
      rintro e w1 ⟨rfl, hb⟩
      have HB := HB.trans hb
      clear hb
      go_wp2
      go_ret
      exact ⟨by first | (simp; done) | (simp; omega), by repeat (first | exact HB | apply Bel.alloc | apply Bel.drewN)⟩
    · obtain ⟨n, rfl⟩ : ∃ n : Nat, b = n := ⟨b.toNat, by omega⟩
      have n63 : n ≤ 63 := by omega
      obtain ⟨p1, p2⟩ := shl_range n n63
      have wp : IntKind.u64.wrap (2 ^ n) = 2 ^ n := wrap_u64 (by omega) p2
      obtain ⟨Y, hY⟩ : ∃ Y, IntKind.u64.wrap (x + 2 ^ n) = Y := ⟨_, rfl⟩
      have YR : 0 ≤ Y ∧ Y < 18446744073709551616 ∧ Y ≠ x := by
        rw [← hY]
        simp [IntKind.wrap, IntKind.bits, IntKind.signed]
        generalize (2 : Int) ^ n = q at p1 p2
        omega
      have HO : Hid (0 ≤ Y ∧ Y < 18446744073709551616) := Lib.hid ⟨YR.1, YR.2.1⟩
      have YN := Lib.hid YR.2.2
      have n63' : (n : Int) ≤ 63 := by omega
      have n0 : ¬ (n : Int) < 0 := by omega
      have n1 : ¬ 63 < (n : Int) := by omega
      have n2 : 0 ≤ (n : Int) := by omega
      clear YR p1 p2 b0 b1 n63
      rcases wget_two x with ⟨hr, hk⟩ | ⟨hr, hk⟩
      · have R0 := Lib.hid hr
        obtain ⟨KK, tt, ff, hw⟩ : ∃ K t f, Hid (wget Y = (K, t, f)) := ⟨_, _, _, Lib.hid rfl⟩
        obtain ⟨op1, fn1, dst1, src1, reg1, off1, imm1⟩ := KK
        have R1 := hw
        clear hr hk hw
        by_cases big : 11258999068426240 ≤ x
        · go_enter Try.func7, Try.ntmps7
          go_wp2_with fail
          refine (awake_any _).mono ?_
          rintro e w1 ⟨rfl, hb⟩
          have HB := HB.trans hb
          clear hb
          go_wp2_with fail
          refine (get_at _ _ _ _ _ _ _ _ _ _ _ HX R0).mono ?_
          rintro e w2 ⟨rfl, hb⟩
          have HB := HB.trans hb
          clear hb
          go_wp2_with fail
          refine (get_at _ _ _ _ _ _ _ _ _ _ _ HO R1).mono ?_
          rintro e w3 ⟨rfl, hb⟩
          obtain ⟨q0, q1, q2, q3, q4, q5, q6⟩ := box7 hb
          have ne : w2.heap.size < w3.heap.size := World.block_lt_of_cell? _ _ q0
          have ne1 : ¬ w2.heap.size = w3.heap.size := by omega
          have ne2 : ¬ w3.heap.size = w2.heap.size := by omega
          replace hb := ((Bel.refl _).alloc _).trans hb
          have HB := HB.trans hb
          clear hb
          go_wp2
          go_ret
          exact ⟨by first | (simp; done) | (simp; omega), by repeat (first | exact HB | apply Bel.alloc | apply Bel.drewN)⟩
        · go_enter Try.func7, Try.ntmps7
          go_wp2_with fail
          refine (awake_any _).mono ?_
          rintro e w1 ⟨rfl, hb⟩
          have HB := HB.trans hb
          clear hb
          go_wp2_with fail
          refine (get_at _ _ _ _ _ _ _ _ _ _ _ HX R0).mono ?_
          rintro e w2 ⟨rfl, hb⟩
          have HB := HB.trans hb
          clear hb
          go_wp2_with fail
          refine (get_at _ _ _ _ _ _ _ _ _ _ _ HO R1).mono ?_
          rintro e w3 ⟨rfl, hb⟩
          obtain ⟨q0, q1, q2, q3, q4, q5, q6⟩ := box7 hb
          have ne : w2.heap.size < w3.heap.size := World.block_lt_of_cell? _ _ q0
          have ne1 : ¬ w2.heap.size = w3.heap.size := by omega
          have ne2 : ¬ w3.heap.size = w2.heap.size := by omega
          replace hb := ((Bel.refl _).alloc _).trans hb
          have HB := HB.trans hb
          clear hb
          go_wp2
          go_ret
          exact ⟨by first | (simp; done) | (simp; omega), by repeat (first | exact HB | apply Bel.alloc | apply Bel.drewN)⟩
      · have big : ¬ 11258999068426240 ≤ x := by have := hk.1; omega
        have R0 := Lib.hid hr
        have HK := Lib.hid hk.2
        clear hr hk
        generalize wgetI x = I at *
        generalize x / 4294967296 % 1024 = t0 at *
        obtain ⟨op, fn, dst, src, reg, off, imm⟩ := I
        rcases wget_two Y with ⟨hr, hk⟩ | ⟨hr, hk⟩
        · have R1 := Lib.hid hr
          clear hr hk
          go_enter Try.func7, Try.ntmps7
          go_wp2_with fail
          refine (awake_any _).mono ?_
          rintro e w1 ⟨rfl, hb⟩
          have HB := HB.trans hb
          clear hb
          go_wp2_with fail
          refine (get_at _ _ _ _ _ _ _ _ _ _ _ HX R0).mono ?_
          rintro e w2 ⟨rfl, hb⟩
          have HB := HB.trans hb
          clear hb
          go_wp2_with fail
          refine (get_at _ _ _ _ _ _ _ _ _ _ _ HO R1).mono ?_
          rintro e w3 ⟨rfl, hb⟩
          obtain ⟨q0, q1, q2, q3, q4, q5, q6⟩ := box7 hb
          have ne : w2.heap.size < w3.heap.size := World.block_lt_of_cell? _ _ q0
          have ne1 : ¬ w2.heap.size = w3.heap.size := by omega
          have ne2 : ¬ w3.heap.size = w2.heap.size := by omega
          replace hb := ((Bel.refl _).alloc _).trans hb
          have HB := HB.trans hb
          clear hb
          go_wp2
          go_ret
          exact ⟨by first | (simp; done) | (simp; omega), by repeat (first | exact HB | apply Bel.alloc | apply Bel.drewN)⟩
        · have R1 := Lib.hid hr
          have HK1 := Lib.hid hk.2
          clear hr hk
          generalize wgetI Y = K at *
          generalize Y / 4294967296 % 1024 = t1 at *
          obtain ⟨op1, fn1, dst1, src1, reg1, off1, imm1⟩ := K
          by_cases e : (⟨op1, fn1, dst1, src1, reg1, off1, imm1⟩ : InstD) = ⟨op, fn, dst, src, reg, off, imm⟩
          · have EQ := inst_neq _ _ _ (Lib.hid (decide_eq_true e))
            have tn : (t1 != t0) = true := by
              rw [bne_iff_ne]
              intro ht
              have h2 := HK.out
              have h3 := HK1.out
              rw [e, ht, h2] at h3
              exact YN.out (congrArg Prod.fst h3).symm
            clear e
            simp only at EQ
            go_enter Try.func7, Try.ntmps7
            go_wp2_with fail
            refine (awake_any _).mono ?_
            rintro e w1 ⟨rfl, hb⟩
            have HB := HB.trans hb
            clear hb
            go_wp2_with fail
            refine (get_at _ _ _ _ _ _ _ _ _ _ _ HX R0).mono ?_
            rintro e w2 ⟨rfl, hb⟩
            have HB := HB.trans hb
            clear hb
            go_wp2_with fail
            refine (get_at _ _ _ _ _ _ _ _ _ _ _ HO R1).mono ?_
            rintro e w3 ⟨rfl, hb⟩
            obtain ⟨q0, q1, q2, q3, q4, q5, q6⟩ := box7 hb
            have ne : w2.heap.size < w3.heap.size := World.block_lt_of_cell? _ _ q0
            have ne1 : ¬ w2.heap.size = w3.heap.size := by omega
            have ne2 : ¬ w3.heap.size = w2.heap.size := by omega
            replace hb := ((Bel.refl _).alloc _).trans hb
            have HB := HB.trans hb
            clear hb
            go_wp2
            go_ret
            exact ⟨by first | (simp; done) | (simp; omega), by repeat (first | exact HB | apply Bel.alloc | apply Bel.drewN)⟩
          · have EQ := inst_neq _ _ _ (Lib.hid (decide_eq_false e))
            clear e
            simp only at EQ
            go_enter Try.func7, Try.ntmps7
            go_wp2_with fail
            refine (awake_any _).mono ?_
            rintro e w1 ⟨rfl, hb⟩
            have HB := HB.trans hb
            clear hb
            go_wp2_with fail
            refine (get_at _ _ _ _ _ _ _ _ _ _ _ HX R0).mono ?_
            rintro e w2 ⟨rfl, hb⟩
            have HB := HB.trans hb
            clear hb
            go_wp2_with fail
            refine (get_at _ _ _ _ _ _ _ _ _ _ _ HO R1).mono ?_
            rintro e w3 ⟨rfl, hb⟩
            obtain ⟨q0, q1, q2, q3, q4, q5, q6⟩ := box7 hb
            have ne : w2.heap.size < w3.heap.size := World.block_lt_of_cell? _ _ q0
            have ne1 : ¬ w2.heap.size = w3.heap.size := by omega
            have ne2 : ¬ w3.heap.size = w2.heap.size := by omega
            replace hb := ((Bel.refl _).alloc _).trans hb
            have HB := HB.trans hb
            clear hb
            go_wp2
            go_ret
            exact ⟨by first | (simp; done) | (simp; omega), by repeat (first | exact HB | apply Bel.alloc | apply Bel.drewN)⟩
end Go.Proofs.Ytkceojfgpmjhhaa
