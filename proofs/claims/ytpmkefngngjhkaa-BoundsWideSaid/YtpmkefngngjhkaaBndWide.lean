/- The law BoundsWide: its walk. -/
import Derived.Test.YtpmkefngngjhkaaBndHold
set_option linter.unusedVariables false
set_option linter.unusedSimpArgs false
namespace Go.Proofs.Ytpmkefngngjhkaa
open Go.RowKit
set_option maxHeartbeats 4000000 in
set_option maxRecDepth 100000 in
theorem BoundsWide_walk (op l1 h1 l2 h2 x1 x2 : Int) (W : World) (wop : (Lit.int .i64 op).wf = true) (wl1 : (Lit.int .u32 l1).wf = true) (wh1 : (Lit.int .u32 h1).wf = true) (wl2 : (Lit.int .u32 l2).wf = true) (wh2 : (Lit.int .u32 h2).wf = true) (wx1 : (Lit.int .u32 x1).wf = true) (wx2 : (Lit.int .u32 x2).wf = true) :
    Calls Try.prog 4 #[.int .i64 op, .int .u32 l1, .int .u32 h1, .int .u32 l2, .int .u32 h2, .int .u32 x1, .int .u32 x2] W fun e w' => e = .returned (.bool true) ∧ Bel W w' := by
  obtain ⟨l1, rfl, kl1⟩ := nat_u32 (u32_of_wf wl1)
  obtain ⟨h1, rfl, kh1⟩ := nat_u32 (u32_of_wf wh1)
  obtain ⟨l2, rfl, kl2⟩ := nat_u32 (u32_of_wf wl2)
  obtain ⟨h2, rfl, kh2⟩ := nat_u32 (u32_of_wf wh2)
  obtain ⟨x1, rfl, kx1⟩ := nat_u32 (u32_of_wf wx1)
  obtain ⟨x2, rfl, kx2⟩ := nat_u32 (u32_of_wf wx2)
  obtain ⟨p1, ep1⟩ : ∃ n, min l1 h1 = n := ⟨_, rfl⟩
  obtain ⟨q1, eq1⟩ : ∃ n, max l1 h1 = n := ⟨_, rfl⟩
  obtain ⟨p2, ep2⟩ : ∃ n, min l2 h2 = n := ⟨_, rfl⟩
  obtain ⟨q2, eq2⟩ : ∃ n, max l2 h2 = n := ⟨_, rfl⟩
  obtain ⟨p1', fp1⟩ : ∃ n, nmin p1 x1 = n := ⟨_, rfl⟩
  obtain ⟨q1', fq1⟩ : ∃ n, nmax q1 x1 = n := ⟨_, rfl⟩
  obtain ⟨p2', fp2⟩ : ∃ n, nmin p2 x2 = n := ⟨_, rfl⟩
  obtain ⟨q2', fq2⟩ : ∃ n, nmax q2 x2 = n := ⟨_, rfl⟩
  have i1 : p1 ≤ q1 := by omega
  have i2 : q1 < 4294967296 := by omega
  have i3 : p2 ≤ q2 := by omega
  have i4 : q2 < 4294967296 := by omega
  have m1 : p1' ≤ p1 ∧ q1 ≤ q1' ∧ q1' < 4294967296 := by simp only [nmin, nmax] at fp1 fq1; omega
  have m2 : p2' ≤ p2 ∧ q2 ≤ q2' ∧ q2' < 4294967296 := by simp only [nmin, nmax] at fp2 fq2; omega
  have i5 : p1' ≤ q1' := by omega
  have i6 : q1' < 4294967296 := m1.2.2
  have i7 : p2' ≤ q2' := by omega
  have i8 : q2' < 4294967296 := m2.2.2
  have HB := Bel.refl W
  by_cases hop : 0 ≤ op ∧ op ≤ 8 ∧ op ≠ 5
  · obtain ⟨n, rfl⟩ : ∃ n : Nat, op = n := ⟨op.toNat, by omega⟩
    have hn : n < 11 := by omega
    obtain ⟨⟨P, Q⟩, eA⟩ : ∃ A, aluS n p1 q1 p2 q2 = A := ⟨_, rfl⟩
    obtain ⟨⟨P', Q'⟩, eB⟩ : ∃ A, aluS n p1' q1' p2' q2' = A := ⟨_, rfl⟩
    have hw := wide_law i1 i3 i6 i8 m1.1 m1.2.1 m2.1 m2.2.1 n (by omega) (by omega)
    rw [eA, eB] at hw
    obtain ⟨z1, z2, z3, z4, z5⟩ := hw
    have y1 : P ≤ Q := z5
    have y2 : Q < 4294967296 := Nat.lt_of_le_of_lt z2 z4
    have y3 : P' ≤ Q' := z3
    have y4 : Q' < 4294967296 := z4
    have y5 : P < 4294967296 := by omega
    have g1 : decide (P' ≤ P ∧ P ≤ Q') = true := by simp only [decide_eq_true_eq] at *; omega
    have g2 : decide (P' ≤ Q ∧ Q ≤ Q') = true := by simp only [decide_eq_true_eq] at *; omega
    have t1 : ¬ (n : Int) < 0 := by omega
    have t2 : ¬ (8 : Int) < (n : Int) := by omega
    have t3 : ((n : Int) == 5) = false := by simp; omega
    clear z1 z2 z3 z4 z5 m1 m2 hop
    replace ep1 := Lib.hid ep1
    replace eq1 := Lib.hid eq1
    replace ep2 := Lib.hid ep2
    replace eq2 := Lib.hid eq2
    replace fp1 := Lib.hid fp1
    replace fq1 := Lib.hid fq1
    replace fp2 := Lib.hid fp2
    replace fq2 := Lib.hid fq2
    replace eA := Lib.hid eA
    replace eB := Lib.hid eB
    go_enter Try.func4, Try.ntmps4
    go_wp2_with (first | (go_at_call 8; refine (bawake_any _).mono ?_; rintro e w1 ⟨rfl, hb1⟩; have HB := HB.trans hb1; clear hb1))
    refine (Of_at l1 h1 p1 q1 _ _ _ rfl rfl ep1.out eq1.out kl1 kh1).mono ?_
    rintro e w1 ⟨rfl, hb1⟩; have HB := HB.trans hb1; clear hb1
    go_wp2_with fail
    refine (Of_at l2 h2 p2 q2 _ _ _ rfl rfl ep2.out eq2.out kl2 kh2).mono ?_
    rintro e w1 ⟨rfl, hb1⟩; have HB := HB.trans hb1; clear hb1
    go_wp2_with fail
    refine (Of_at x1 x1 x1 x1 _ _ _ rfl rfl (Nat.min_self x1) (Nat.max_self x1) kx1 kx1).mono ?_
    rintro e w1 ⟨rfl, hb1⟩; have HB := HB.trans hb1; clear hb1
    go_wp2_with fail
    refine (join_at p1 q1 x1 x1 p1' q1' _ fp1.out fq1.out i1 i2 (Nat.le_refl _) kx1).mono ?_
    rintro e w1 ⟨rfl, hb1⟩; have HB := HB.trans hb1; clear hb1
    go_wp2_with fail
    refine (Of_at x2 x2 x2 x2 _ _ _ rfl rfl (Nat.min_self x2) (Nat.max_self x2) kx2 kx2).mono ?_
    rintro e w1 ⟨rfl, hb1⟩; have HB := HB.trans hb1; clear hb1
    go_wp2_with fail
    refine (join_at p2 q2 x2 x2 p2' q2' _ fp2.out fq2.out i3 i4 (Nat.le_refl _) kx2).mono ?_
    rintro e w1 ⟨rfl, hb1⟩; have HB := HB.trans hb1; clear hb1
    go_wp2_with fail
    refine (balu_at n p1 q1 p2 q2 P Q n _ rfl eA.out hn i1 i2 i3 i4).mono ?_
    rintro e w1 ⟨rfl, hb1⟩; have HB := HB.trans hb1; clear hb1
    go_wp2_with (first | (go_at_call 11; refine (ends_any _ _ _ (by with_reducible assumption) (by with_reducible assumption)).mono ?_; rintro e w1 ⟨rfl, hb1⟩; have HB := HB.trans hb1; clear hb1))
    refine (balu_at n p1' q1' p2' q2' P' Q' n _ rfl eB.out hn i5 i6 i7 i8).mono ?_
    rintro e w1 ⟨rfl, hb1⟩; have HB := HB.trans hb1; clear hb1
    go_wp2_with (first | (go_at_call 12; refine (has_any _ _ _ _ (by with_reducible assumption) (by with_reducible assumption) (by with_reducible assumption)).mono ?_; rintro e w1 ⟨rfl, hb1⟩; have HB := HB.trans hb1; clear hb1))
    all_goals go_ret
    all_goals exact ⟨by first | (simp; done) | (simp; omega), HB⟩
  · clear m1 m2
    replace ep1 := Lib.hid ep1
    replace eq1 := Lib.hid eq1
    replace ep2 := Lib.hid ep2
    replace eq2 := Lib.hid eq2
    replace fp1 := Lib.hid fp1
    replace fq1 := Lib.hid fq1
    replace fp2 := Lib.hid fp2
    replace fq2 := Lib.hid fq2
    by_cases t1 : op < 0
    · clear hop
      go_enter Try.func4, Try.ntmps4
      go_wp2_with (first | (go_at_call 8; refine (bawake_any _).mono ?_; rintro e w1 ⟨rfl, hb1⟩; have HB := HB.trans hb1; clear hb1))
      refine (Of_at l1 h1 p1 q1 _ _ _ rfl rfl ep1.out eq1.out kl1 kh1).mono ?_
      rintro e w1 ⟨rfl, hb1⟩; have HB := HB.trans hb1; clear hb1
      go_wp2_with fail
      refine (Of_at l2 h2 p2 q2 _ _ _ rfl rfl ep2.out eq2.out kl2 kh2).mono ?_
      rintro e w1 ⟨rfl, hb1⟩; have HB := HB.trans hb1; clear hb1
      go_wp2_with fail
      refine (Of_at x1 x1 x1 x1 _ _ _ rfl rfl (Nat.min_self x1) (Nat.max_self x1) kx1 kx1).mono ?_
      rintro e w1 ⟨rfl, hb1⟩; have HB := HB.trans hb1; clear hb1
      go_wp2_with fail
      refine (join_at p1 q1 x1 x1 p1' q1' _ fp1.out fq1.out i1 i2 (Nat.le_refl _) kx1).mono ?_
      rintro e w1 ⟨rfl, hb1⟩; have HB := HB.trans hb1; clear hb1
      go_wp2_with fail
      refine (Of_at x2 x2 x2 x2 _ _ _ rfl rfl (Nat.min_self x2) (Nat.max_self x2) kx2 kx2).mono ?_
      rintro e w1 ⟨rfl, hb1⟩; have HB := HB.trans hb1; clear hb1
      go_wp2_with fail
      refine (join_at p2 q2 x2 x2 p2' q2' _ fp2.out fq2.out i3 i4 (Nat.le_refl _) kx2).mono ?_
      rintro e w1 ⟨rfl, hb1⟩; have HB := HB.trans hb1; clear hb1
      go_wp2_with fail
      all_goals go_ret
      all_goals exact ⟨by first | (simp; done) | (simp; omega), HB⟩
    by_cases t2 : 8 < op
    · clear hop
      go_enter Try.func4, Try.ntmps4
      go_wp2_with (first | (go_at_call 8; refine (bawake_any _).mono ?_; rintro e w1 ⟨rfl, hb1⟩; have HB := HB.trans hb1; clear hb1))
      refine (Of_at l1 h1 p1 q1 _ _ _ rfl rfl ep1.out eq1.out kl1 kh1).mono ?_
      rintro e w1 ⟨rfl, hb1⟩; have HB := HB.trans hb1; clear hb1
      go_wp2_with fail
      refine (Of_at l2 h2 p2 q2 _ _ _ rfl rfl ep2.out eq2.out kl2 kh2).mono ?_
      rintro e w1 ⟨rfl, hb1⟩; have HB := HB.trans hb1; clear hb1
      go_wp2_with fail
      refine (Of_at x1 x1 x1 x1 _ _ _ rfl rfl (Nat.min_self x1) (Nat.max_self x1) kx1 kx1).mono ?_
      rintro e w1 ⟨rfl, hb1⟩; have HB := HB.trans hb1; clear hb1
      go_wp2_with fail
      refine (join_at p1 q1 x1 x1 p1' q1' _ fp1.out fq1.out i1 i2 (Nat.le_refl _) kx1).mono ?_
      rintro e w1 ⟨rfl, hb1⟩; have HB := HB.trans hb1; clear hb1
      go_wp2_with fail
      refine (Of_at x2 x2 x2 x2 _ _ _ rfl rfl (Nat.min_self x2) (Nat.max_self x2) kx2 kx2).mono ?_
      rintro e w1 ⟨rfl, hb1⟩; have HB := HB.trans hb1; clear hb1
      go_wp2_with fail
      refine (join_at p2 q2 x2 x2 p2' q2' _ fp2.out fq2.out i3 i4 (Nat.le_refl _) kx2).mono ?_
      rintro e w1 ⟨rfl, hb1⟩; have HB := HB.trans hb1; clear hb1
      go_wp2_with fail
      all_goals go_ret
      all_goals exact ⟨by first | (simp; done) | (simp; omega), HB⟩
    obtain rfl : op = 5 := by omega
    clear hop t1 t2
    go_enter Try.func4, Try.ntmps4
    go_wp2_with (first | (go_at_call 8; refine (bawake_any _).mono ?_; rintro e w1 ⟨rfl, hb1⟩; have HB := HB.trans hb1; clear hb1))
    refine (Of_at l1 h1 p1 q1 _ _ _ rfl rfl ep1.out eq1.out kl1 kh1).mono ?_
    rintro e w1 ⟨rfl, hb1⟩; have HB := HB.trans hb1; clear hb1
    go_wp2_with fail
    refine (Of_at l2 h2 p2 q2 _ _ _ rfl rfl ep2.out eq2.out kl2 kh2).mono ?_
    rintro e w1 ⟨rfl, hb1⟩; have HB := HB.trans hb1; clear hb1
    go_wp2_with fail
    refine (Of_at x1 x1 x1 x1 _ _ _ rfl rfl (Nat.min_self x1) (Nat.max_self x1) kx1 kx1).mono ?_
    rintro e w1 ⟨rfl, hb1⟩; have HB := HB.trans hb1; clear hb1
    go_wp2_with fail
    refine (join_at p1 q1 x1 x1 p1' q1' _ fp1.out fq1.out i1 i2 (Nat.le_refl _) kx1).mono ?_
    rintro e w1 ⟨rfl, hb1⟩; have HB := HB.trans hb1; clear hb1
    go_wp2_with fail
    refine (Of_at x2 x2 x2 x2 _ _ _ rfl rfl (Nat.min_self x2) (Nat.max_self x2) kx2 kx2).mono ?_
    rintro e w1 ⟨rfl, hb1⟩; have HB := HB.trans hb1; clear hb1
    go_wp2_with fail
    refine (join_at p2 q2 x2 x2 p2' q2' _ fp2.out fq2.out i3 i4 (Nat.le_refl _) kx2).mono ?_
    rintro e w1 ⟨rfl, hb1⟩; have HB := HB.trans hb1; clear hb1
    go_wp2_with fail
    all_goals go_ret
    all_goals exact ⟨by first | (simp; done) | (simp; omega), HB⟩
end Go.Proofs.Ytpmkefngngjhkaa
