/- The walk of InstWrong. -/
import Derived.Test.YtajjodbfbmigkaaInstLawApart
set_option linter.unusedVariables false
set_option linter.unusedSimpArgs false
namespace Go.Proofs.Ytajjodbfbmigkaa
open Go.RowKit
theorem k3 (l : List Int) (b off c : Nat) (w : World) (hs : Sl (IntR .u8) 1 w (some ⟨b, off, none⟩) c l) (h : l.length = 8) : (Lit.int .u8 (l.getD 3 0)).wf = true := by
  obtain ⟨_, _, _, hc⟩ := hs.int_cell (by omega)
  exact (hc 3 (by omega)).2

set_option maxHeartbeats 4000000 in
set_option maxRecDepth 100000 in
theorem InstWrong_walk (A : Option Addr) (c : Nat) (l : List Int) (w : World) (hs : Sl (IntR .u8) 1 w A c l) :
    Calls Try.prog 7 #[.slice A l.length c] w fun e w' => e = .returned (.bool true) ∧ Bel w w' := by
  have b1 : l.length ≤ 9223372036854775807 := by have := hs.le; have := hs.big; simp only [maxLen] at this; omega
  have HS := Lib.hid hs
  have HB := Bel.refl w
  by_cases h1 : 100 < l.length
  · clear hs
    have h1' : (100 : Int) < (l.length : Int) := by omega
    go_enter Try.func7, Try.ntmps7
    go_wp2_with fail
    refine (awake_any _).mono ?_
    rintro e w1 ⟨rfl, hb⟩
    have HB := HB.trans hb
    have HS := Lib.hid (HS.out.mono (IntR.mono _) hb)
    clear hb
    go_wp2
    go_ret
    exact ⟨by first | (simp; done) | (simp; omega), HB⟩
  · have h1' : ¬ (100 : Int) < (l.length : Int) := by omega
    by_cases h2 : l.length = 8
    · have H2 := Lib.hid h2
      obtain ⟨b, off, rfl, hc⟩ := hs.int_cell (by omega)
      have c0 := (hc 0 (by omega)).1
      have c2 := (hc 2 (by omega)).1
      have c7 := (hc 7 (by omega)).1
      have g0 := u8_of_wf (hc 0 (by omega)).2
      have g2 := u8_of_wf (hc 2 (by omega)).2
      have g7 := u8_of_wf (hc 7 (by omega)).2
      obtain ⟨g0a, g0b⟩ := g0
      obtain ⟨g2a, g2b⟩ := g2
      obtain ⟨g7a, g7b⟩ := g7
      clear hc
      have t2 : ((8 : Int) != 8) = false := by decide
      rw [h2]
      by_cases hm : (getI l).may = true
      · have HR : Hid (getR l = (getI l, 0)) := Lib.hid (getR_may hm h2)
        obtain ⟨⟨a1, a2⟩, _, _, ⟨d1, d2⟩, ⟨e1, e2⟩, _⟩ := may_facts hm
        have hu := getI_imm h2 hs.u8
        have i1 := hu.lo
        have i2 := hu.hi
        have q0 : l.getD 0 0 = 16 * (getI l).op + (getI l).fn := by simp only [getI]; omega
        have q2 : l.getD 2 0 = (getI l).off / 256 := by
          have := u8_of_wf (k3 l b off c w hs h2)
          simp only [getI, beN, Nat.add_zero, Nat.reduceAdd]; omega
        have q7 : l.getD 7 0 = (getI l).imm % 256 := by simp only [getI, beN, Nat.add_zero, Nat.reduceAdd]; omega
        have t3 : (l.getD 0 0 == 16 * (getI l).op + (getI l).fn) = true := beq_iff_eq.2 q0
        have t4 : decide (l.getD 0 0 < 128) = true := decide_eq_true (by omega)
        have t5 : (l.getD 2 0 == (getI l).off / 256) = true := beq_iff_eq.2 q2
        have t6 : (l.getD 7 0 == (getI l).imm % 256) = true := beq_iff_eq.2 q7
        clear q0 q2 q7 hm hu hs
        generalize getI l = I at *
        obtain ⟨op, fn, dst, src, reg, off1, imm⟩ := I
        simp only at *
        have HN : Hid (l.length = 8) := Lib.hid h2
        clear h2
        generalize l.getD 0 0 = B0 at *
        generalize l.getD 2 0 = B2 at *
        generalize l.getD 7 0 = B7 at *
        go_enter Try.func7, Try.ntmps7
        go_wp2_with fail
        refine (awake_any _).mono ?_
        rintro e w1 ⟨rfl, hb⟩
        have HB := HB.trans hb
        have HS := Lib.hid (HS.out.mono (IntR.mono _) hb)
        clear hb
        go_wp2_with fail
        refine (get_at _ _ _ _ _ HS.out HN _ _ HR).mono ?_
        rintro e w2 ⟨rfl, hb⟩
        have HB := HB.trans hb
        have HS := Lib.hid (HS.out.mono (IntR.mono _) hb)
        clear hb
        have c0 := HB.cell c0
        rw [Nat.add_zero] at c0
        have c2 := HB.cell c2
        have c7 := HB.cell c7
        have ne : b < w2.heap.size := World.block_lt_of_cell? _ _ c0
        have ne1 : ¬ b = w2.heap.size := by omega
        have ne2 : ¬ w2.heap.size = b := by omega
        go_wp2_with fail
        go_quiet (fail)
        go_wp2
        go_ret
        exact ⟨by first | (simp; done) | (simp; omega), by repeat (first | exact HB | apply Bel.alloc | apply Bel.drewN)⟩
      · have HR : Hid (getR l = (InstD.zero, 7)) := Lib.hid (by unfold getR; rw [if_pos h2, if_neg hm])
        have HN : Hid (l.length = 8) := Lib.hid h2
        clear hs h2 hm c0 c2 c7 g0a g0b g2a g2b g7a g7b
        go_enter Try.func7, Try.ntmps7
        go_wp2_with fail
        refine (awake_any _).mono ?_
        rintro e w1 ⟨rfl, hb⟩
        have HB := HB.trans hb
        have HS := Lib.hid (HS.out.mono (IntR.mono _) hb)
        clear hb
        go_wp2_with fail
        refine (get_at _ _ _ _ _ HS.out HN _ _ HR).mono ?_
        rintro e w2 ⟨rfl, hb⟩
        have HB := HB.trans hb
        have HS := Lib.hid (HS.out.mono (IntR.mono _) hb)
        clear hb
        go_wp2_with fail
        go_quiet (fail)
        go_wp2
        go_ret
        exact ⟨by first | (simp; done) | (simp; omega), by repeat (first | exact HB | apply Bel.alloc | apply Bel.drewN)⟩
    · have t2 : ((l.length : Int) != 8) = true := by rw [bne_iff_ne]; omega
      have HR : Hid (getR l = (InstD.zero, 7)) := Lib.hid (by unfold getR; rw [if_neg h2])
      clear hs h2
      go_enter Try.func7, Try.ntmps7
      go_wp2_with fail
      refine (awake_any _).mono ?_
      rintro e w1 ⟨rfl, hb⟩
      have HB := HB.trans hb
      have HS := Lib.hid (HS.out.mono (IntR.mono _) hb)
      clear hb
      go_wp2_with fail
      refine (get_at _ _ _ _ _ HS.out (Lib.hid rfl) _ _ HR).mono ?_
      rintro e w2 ⟨rfl, hb⟩
      have HB := HB.trans hb
      have HS := Lib.hid (HS.out.mono (IntR.mono _) hb)
      clear hb
      go_wp2
      go_ret
      exact ⟨by first | (simp; done) | (simp; omega), by repeat (first | exact HB | apply Bel.alloc | apply Bel.drewN)⟩
end Go.Proofs.Ytajjodbfbmigkaa
