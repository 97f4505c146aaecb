/- The walk of InstTells. -/
import Derived.Test.YtajjodbfbmigkaaInstLawBack
import Derived.Test.YtajjodbfbmigkaaRefInst
set_option linter.unusedVariables false
set_option linter.unusedSimpArgs false
namespace Go.Proofs.Ytajjodbfbmigkaa
open Go.RowKit
theorem refmay_at (op fn dst src : Int) (reg : Bool) (off imm : Int) (b : Bool) (w : World) (h : Hid (InstD.may ⟨op, fn, dst, src, reg, off, imm⟩ = b)) : Calls Try.prog 16 #[.agg #[.int .i64 op, .int .i64 fn, .int .i64 dst, .int .i64 src, .bool reg, .int .i64 off, .int .u32 imm]] w fun e w' => e = .returned (.bool b) ∧ Bel w w' := by
  have := refmay_any op fn dst src reg off imm w
  rw [show mayB op fn dst src reg off imm = b from h.out] at this
  exact this
set_option maxHeartbeats 4000000 in
set_option maxRecDepth 100000 in
theorem InstTells_walk (C0 : Array Value) (a0 : InstD) (A : Option Addr) (c : Nat) (l : List Int) (w : World) (r0 : InstR w C0.toList a0) (hs : Sl (IntR .u8) 1 w A c l) :
    Calls Try.prog 3 #[.agg C0, .slice A l.length c] w fun e w' => e = .returned (.bool true) ∧ Bel w w' := by
  obtain ⟨hcs, hwf⟩ := r0
  obtain ⟨op, fn, dst, src, reg, off, imm⟩ := a0
  obtain rfl : C0 = #[.int .i64 op, .int .i64 fn, .int .i64 dst, .int .i64 src, .bool reg, .int .i64 off, .int .u32 imm] := inst_arr hcs
  clear hcs
  have u0 : U32 imm := hwf.imm
  have b1 : l.length ≤ 9223372036854775807 := by have := hs.le; have := hs.big; simp only [maxLen] at this; omega
  have HB := Bel.refl (w.alloc (.cells #[.int .i64 op, .int .i64 fn, .int .i64 dst, .int .i64 src, .bool reg, .int .i64 off, .int .u32 imm] 24))
  have HS := Lib.hid (hs.mono (IntR.mono _) HB.un)
  clear hwf
  by_cases h1 : 100 < l.length
  · clear hs
    have h1' : (100 : Int) < (l.length : Int) := by omega
    go_enter Try.func3, Try.ntmps3
    go_wp2_with fail
    refine (awake_any _).mono ?_
    rintro e w1 ⟨rfl, hb⟩
    have HB := HB.trans hb
    have HS := Lib.hid (HS.out.mono (IntR.mono _) hb)
    obtain ⟨p0, p1, p2, p3, p4, p5, p6⟩ := box7 HB
    have ne : w.heap.size < w1.heap.size := World.block_lt_of_cell? _ _ p0
    have ne1 : ¬ w.heap.size = w1.heap.size := by omega
    have ne2 : ¬ w1.heap.size = w.heap.size := by omega
    clear hb
    go_wp2
    go_ret
    exact ⟨by first | (simp; done) | (simp; omega), HB.un⟩
  · have h1' : ¬ (100 : Int) < (l.length : Int) := by omega
    clear hs
    obtain ⟨lp, ep, R0⟩ : ∃ l e, Hid (putR ⟨op, fn, dst, src, reg, off, imm⟩ = (l, e)) := ⟨_, _, Lib.hid rfl⟩
    obtain ⟨K, eg, G0⟩ : ∃ K e, Hid (getR l = (K, e)) := ⟨_, _, Lib.hid rfl⟩
    obtain ⟨mb, M0⟩ : ∃ b, Hid (InstD.may ⟨op, fn, dst, src, reg, off, imm⟩ = b) := ⟨_, Lib.hid rfl⟩
    obtain ⟨kop, kfn, kdst, ksrc, kreg, koff, kimm⟩ := K
    have EQ := inst_eql ⟨kop, kfn, kdst, ksrc, kreg, koff, kimm⟩ ⟨kop, kfn, kdst, ksrc, kreg, koff, kimm⟩ true (Lib.hid (by simp))
    simp only at EQ
    go_enter Try.func3, Try.ntmps3
    go_wp2_with fail
    refine (awake_any _).mono ?_
    rintro e w1 ⟨rfl, hb⟩
    have HB := HB.trans hb
    have HS := Lib.hid (HS.out.mono (IntR.mono _) hb)
    obtain ⟨p0, p1, p2, p3, p4, p5, p6⟩ := box7 HB
    have ne : w.heap.size < w1.heap.size := World.block_lt_of_cell? _ _ p0
    have ne1 : ¬ w.heap.size = w1.heap.size := by omega
    have ne2 : ¬ w1.heap.size = w.heap.size := by omega
    clear hb
    go_wp2_with fail
    refine (put_at op fn dst src reg off imm _ u0 _ _ R0).mono ?_
    rintro e w2 ⟨A0, c0, rfl, s0, hb⟩
    have HB := HB.trans hb
    have HS := Lib.hid (HS.out.mono (IntR.mono _) hb)
    have Hs0 := Lib.hid s0
    clear s0
    obtain ⟨p0, p1, p2, p3, p4, p5, p6⟩ := box7 HB
    have ne : w.heap.size < w2.heap.size := World.block_lt_of_cell? _ _ p0
    have ne1 : ¬ w.heap.size = w2.heap.size := by omega
    have ne2 : ¬ w2.heap.size = w.heap.size := by omega
    clear hb
    go_wp2_with fail
    refine (refput_at op fn dst src reg off imm _ u0 _ _ R0).mono ?_
    rintro e w3 ⟨A1, c1, rfl, s1, hb⟩
    have HB := HB.trans hb
    have HS := Lib.hid (HS.out.mono (IntR.mono _) hb)
    have Hs0 := Lib.hid (Hs0.out.mono (IntR.mono _) hb)
    have Hs1 := Lib.hid s1
    clear s1
    obtain ⟨p0, p1, p2, p3, p4, p5, p6⟩ := box7 HB
    have ne : w.heap.size < w3.heap.size := World.block_lt_of_cell? _ _ p0
    have ne1 : ¬ w.heap.size = w3.heap.size := by omega
    have ne2 : ¬ w3.heap.size = w.heap.size := by omega
    clear hb
    go_wp2_with fail
    refine (bytes_at _ _ _ _ _ _ _ _ _ Hs0.out Hs1.out (Lib.hid rfl) (Lib.hid rfl) true (Lib.hid (by simp))).mono ?_
    rintro e w4 ⟨rfl, hb⟩
    have HB := HB.trans hb
    have HS := Lib.hid (HS.out.mono (IntR.mono _) hb)
    have Hs0 := Lib.hid (Hs0.out.mono (IntR.mono _) hb)
    have Hs1 := Lib.hid (Hs1.out.mono (IntR.mono _) hb)
    obtain ⟨p0, p1, p2, p3, p4, p5, p6⟩ := box7 HB
    have ne : w.heap.size < w4.heap.size := World.block_lt_of_cell? _ _ p0
    have ne1 : ¬ w.heap.size = w4.heap.size := by omega
    have ne2 : ¬ w4.heap.size = w.heap.size := by omega
    clear hb
    go_wp2_with fail
    refine (get_at _ _ _ _ _ HS.out (Lib.hid rfl) _ _ G0).mono ?_
    rintro e w5 ⟨rfl, hb⟩
    have HB := HB.trans hb
    have HS := Lib.hid (HS.out.mono (IntR.mono _) hb)
    have Hs0 := Lib.hid (Hs0.out.mono (IntR.mono _) hb)
    have Hs1 := Lib.hid (Hs1.out.mono (IntR.mono _) hb)
    obtain ⟨p0, p1, p2, p3, p4, p5, p6⟩ := box7 HB
    have ne : w.heap.size < w5.heap.size := World.block_lt_of_cell? _ _ p0
    have ne1 : ¬ w.heap.size = w5.heap.size := by omega
    have ne2 : ¬ w5.heap.size = w.heap.size := by omega
    clear hb
    go_wp2_with fail
    refine (refget_at _ _ _ _ _ (HS.out.mono (IntR.mono _) ((Bel.refl _).alloc _)) (Lib.hid rfl) _ _ G0).mono ?_
    rintro e w6 ⟨rfl, hb⟩
    have HX := hb
    obtain ⟨x0, x1, x2, x3, x4, x5, x6⟩ := box7 HX
    have nx : w5.heap.size < w6.heap.size := World.block_lt_of_cell? _ _ x0
    have nx1 : ¬ w5.heap.size = w6.heap.size := by omega
    have nx2 : ¬ w6.heap.size = w5.heap.size := by omega
    replace hb := ((Bel.refl _).alloc _).trans hb
    have HB := HB.trans hb
    have HS := Lib.hid (HS.out.mono (IntR.mono _) hb)
    have Hs0 := Lib.hid (Hs0.out.mono (IntR.mono _) hb)
    have Hs1 := Lib.hid (Hs1.out.mono (IntR.mono _) hb)
    obtain ⟨p0, p1, p2, p3, p4, p5, p6⟩ := box7 HB
    have ne : w.heap.size < w6.heap.size := World.block_lt_of_cell? _ _ p0
    have ne1 : ¬ w.heap.size = w6.heap.size := by omega
    have ne2 : ¬ w6.heap.size = w.heap.size := by omega
    clear hb
    go_wp2_with fail
    obtain ⟨W0, hW0⟩ : ∃ W0, W0 = w6.alloc (.cells #[.int .i64 kop, .int .i64 kfn, .int .i64 kdst, .int .i64 ksrc, .bool kreg, .int .i64 koff, .int .u32 kimm] 24) := ⟨_, rfl⟩
    have B0 : Bel w6 W0 := by rw [hW0]; exact (Bel.refl _).alloc _
    have YY := fun (w' : World) (h : Bel W0 w') => box7 (w := w6) (hW0 ▸ h)
    rw [← hW0]
    clear hW0
    have P0 := fun (w' : World) (h : Bel W0 w') => (box7 (HB.trans (B0.trans h))).1
    have P1 := fun (w' : World) (h : Bel W0 w') => (box7 (HB.trans (B0.trans h))).2.1
    have P2 := fun (w' : World) (h : Bel W0 w') => (box7 (HB.trans (B0.trans h))).2.2.1
    have P3 := fun (w' : World) (h : Bel W0 w') => (box7 (HB.trans (B0.trans h))).2.2.2.1
    have P4 := fun (w' : World) (h : Bel W0 w') => (box7 (HB.trans (B0.trans h))).2.2.2.2.1
    have P5 := fun (w' : World) (h : Bel W0 w') => (box7 (HB.trans (B0.trans h))).2.2.2.2.2.1
    have P6 := fun (w' : World) (h : Bel W0 w') => (box7 (HB.trans (B0.trans h))).2.2.2.2.2.2
    have X0 := fun (w' : World) (h : Bel W0 w') => (box7 (HX.trans (B0.trans h))).1
    have X1 := fun (w' : World) (h : Bel W0 w') => (box7 (HX.trans (B0.trans h))).2.1
    have X2 := fun (w' : World) (h : Bel W0 w') => (box7 (HX.trans (B0.trans h))).2.2.1
    have X3 := fun (w' : World) (h : Bel W0 w') => (box7 (HX.trans (B0.trans h))).2.2.2.1
    have X4 := fun (w' : World) (h : Bel W0 w') => (box7 (HX.trans (B0.trans h))).2.2.2.2.1
    have X5 := fun (w' : World) (h : Bel W0 w') => (box7 (HX.trans (B0.trans h))).2.2.2.2.2.1
    have X6 := fun (w' : World) (h : Bel W0 w') => (box7 (HX.trans (B0.trans h))).2.2.2.2.2.2
    have Y0 := fun (w' : World) (h : Bel W0 w') => (YY w' h).1
    have Y1 := fun (w' : World) (h : Bel W0 w') => (YY w' h).2.1
    have Y2 := fun (w' : World) (h : Bel W0 w') => (YY w' h).2.2.1
    have Y3 := fun (w' : World) (h : Bel W0 w') => (YY w' h).2.2.2.1
    have Y4 := fun (w' : World) (h : Bel W0 w') => (YY w' h).2.2.2.2.1
    have Y5 := fun (w' : World) (h : Bel W0 w') => (YY w' h).2.2.2.2.2.1
    have Y6 := fun (w' : World) (h : Bel W0 w') => (YY w' h).2.2.2.2.2.2
    have HW := HB.un.trans B0
    have HR := Bel.refl W0
    clear YY B0 HB HX x0 x1 x2 x3 x4 x5 x6 nx nx1 nx2 p0 p1 p2 p3 p4 p5 p6 ne ne1 ne2 HS Hs0 Hs1 R0 G0
    go_region_held3 (fun w' => Bel W0 w') (first | (with_reducible assumption) | (with_reducible refine Bel.trans ?_ hb1; with_reducible assumption) | (with_reducible refine Bel.drew ?_; first | (with_reducible assumption) | (with_reducible refine Bel.trans ?_ hb1; with_reducible assumption))) (first | (go_at_call 15; refine (may_at op fn dst src reg off imm mb _ M0).mono ?_; rintro e w1 ⟨rfl, hb1⟩) | (go_at_call 16; refine (refmay_at op fn dst src reg off imm mb _ M0).mono ?_; rintro e w1 ⟨rfl, hb1⟩))
    go_wp2
    go_ret
    exact ⟨by first | (simp; done) | (simp; omega), by refine HW.trans ?_; assumption⟩
end Go.Proofs.Ytajjodbfbmigkaa
