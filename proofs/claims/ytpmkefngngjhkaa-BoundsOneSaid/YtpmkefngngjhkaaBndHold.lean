/- The law BoundsHold: its walk. -/
import Derived.Test.YtpmkefngngjhkaaBndWithin
import Derived.Test.YtpmkefngngjhkaaBndPure
set_option linter.unusedVariables false
set_option linter.unusedSimpArgs false
namespace Go.Proofs.Ytpmkefngngjhkaa
open Go.RowKit
theorem do_at (op x y : Int) (v : Nat) (o : Bool) (w : World) (hv : aluI op x y = v) (ho : aluOk op = o) (hx : U32 x) (hy : U32 y) :
    Calls Try.prog 17 #[.int .i64 op, .int .u32 x, .int .u32 y] w fun e w' => e = .returned (.tuple #[.int .u32 v, .bool o]) ∧ Bel w w' := by
  rw [← hv]; subst ho; exact do_any op x y w hx hy
set_option maxHeartbeats 4000000 in
set_option maxRecDepth 100000 in
theorem BoundsHold_walk (op l1 h1 f1 l2 h2 f2 : Int) (w : World) (wop : (Lit.int .i64 op).wf = true) (wl1 : (Lit.int .u32 l1).wf = true) (wh1 : (Lit.int .u32 h1).wf = true) (wf1 : (Lit.int .u32 f1).wf = true) (wl2 : (Lit.int .u32 l2).wf = true) (wh2 : (Lit.int .u32 h2).wf = true) (wf2 : (Lit.int .u32 f2).wf = true) :
    Calls Try.prog 6 #[.int .i64 op, .int .u32 l1, .int .u32 h1, .int .u32 f1, .int .u32 l2, .int .u32 h2, .int .u32 f2] w fun e w' => e = .returned (.bool true) ∧ Bel w w' := by
  obtain ⟨l1, rfl, kl1⟩ := nat_u32 (u32_of_wf wl1)
  obtain ⟨h1, rfl, kh1⟩ := nat_u32 (u32_of_wf wh1)
  obtain ⟨f1, rfl, kf1⟩ := nat_u32 (u32_of_wf wf1)
  obtain ⟨l2, rfl, kl2⟩ := nat_u32 (u32_of_wf wl2)
  obtain ⟨h2, rfl, kh2⟩ := nat_u32 (u32_of_wf wh2)
  obtain ⟨f2, rfl, kf2⟩ := nat_u32 (u32_of_wf wf2)
  obtain ⟨p1, ep1⟩ : ∃ n, min l1 h1 = n := ⟨_, rfl⟩
  obtain ⟨q1, eq1⟩ : ∃ n, max l1 h1 = n := ⟨_, rfl⟩
  obtain ⟨p2, ep2⟩ : ∃ n, min l2 h2 = n := ⟨_, rfl⟩
  obtain ⟨q2, eq2⟩ : ∃ n, max l2 h2 = n := ⟨_, rfl⟩
  obtain ⟨x, ex⟩ : ∃ n, p1 + f1 % (q1 - p1 + 1) = n := ⟨_, rfl⟩
  obtain ⟨y, ey⟩ : ∃ n, p2 + f2 % (q2 - p2 + 1) = n := ⟨_, rfl⟩
  have i1 : p1 ≤ q1 := by omega
  have i2 : q1 < 4294967296 := by omega
  have i3 : p2 ≤ q2 := by omega
  have i4 : q2 < 4294967296 := by omega
  have j1 : x ≤ q1 := by have := within_le (f := f1) i1; omega
  have j2 : y ≤ q2 := by have := within_le (f := f2) i3; omega
  have j3 : p1 ≤ x := by omega
  have j4 : p2 ≤ y := by omega
  have kx : x < 4294967296 := by omega
  have ky : y < 4294967296 := by omega
  have g1 : decide (p1 ≤ x ∧ x ≤ q1) = true := by simp only [decide_eq_true_eq]; omega
  have g2 : decide (p2 ≤ y ∧ y ≤ q2) = true := by simp only [decide_eq_true_eq]; omega
  have hu := aluI_u32 op (u32_nat kx) (u32_nat ky)
  obtain ⟨v, ev⟩ : ∃ n : Nat, aluI op x y = n := ⟨(aluI op x y).toNat, by have := hu.lo; omega⟩
  have HB := Bel.refl w
  by_cases hop : 0 ≤ op ∧ op < 11
  · have eo : aluOk op = true := decide_eq_true hop
    obtain ⟨n, rfl⟩ : ∃ n : Nat, op = n := ⟨op.toNat, by omega⟩
    have hn : n < 11 := by omega
    obtain ⟨⟨P, Q⟩, eA⟩ : ∃ A, aluS n p1 q1 p2 q2 = A := ⟨_, rfl⟩
    have hw := aluS_law j3 j1 j4 j2 i2 i4 n hn
    rw [eA, ev] at hw
    obtain ⟨z1, z2, z3, z4⟩ := hw
    have kv : v < 4294967296 := by simp only at *; omega
    have g3 : decide (P ≤ v ∧ v ≤ Q) = true := by simp only [decide_eq_true_eq] at *; omega
    have z1' : P ≤ Q := z1
    have z2' : Q < 4294967296 := z2
    clear z1 z2 z3 z4 hop hu
    replace ep1 := Lib.hid ep1
    replace eq1 := Lib.hid eq1
    replace ep2 := Lib.hid ep2
    replace eq2 := Lib.hid eq2
    replace ex := Lib.hid ex
    replace ey := Lib.hid ey
    replace ev := Lib.hid ev
    replace eo := Lib.hid eo
    replace eA := Lib.hid eA
    go_enter Try.func6, Try.ntmps6
    go_wp2_with (first | (go_at_call 8; refine (bawake_any _).mono ?_; rintro e w1 ⟨rfl, hb1⟩; have HB := HB.trans hb1; clear hb1))
    refine (within_at l1 h1 f1 p1 q1 x _ ep1.out eq1.out ex.out kl1 kh1 kf1).mono ?_
    rintro e w1 ⟨rfl, hb1⟩; have HB := HB.trans hb1; clear hb1
    go_wp2_with fail
    refine (within_at l2 h2 f2 p2 q2 y _ ep2.out eq2.out ey.out kl2 kh2 kf2).mono ?_
    rintro e w1 ⟨rfl, hb1⟩; have HB := HB.trans hb1; clear hb1
    go_wp2_with fail
    refine (do_at n x y v _ _ ev.out eo.out (u32_nat kx) (u32_nat ky)).mono ?_
    rintro e w1 ⟨rfl, hb1⟩; have HB := HB.trans hb1; clear hb1
    go_wp2_with (first | (go_at_call 12; refine (has_any _ _ _ _ (by with_reducible assumption) (by with_reducible assumption) (by with_reducible assumption)).mono ?_; rintro e w1 ⟨rfl, hb1⟩; have HB := HB.trans hb1; clear hb1))
    refine (balu_at n p1 q1 p2 q2 P Q n _ rfl eA.out hn i1 i2 i3 i4).mono ?_
    rintro e w1 ⟨rfl, hb1⟩; have HB := HB.trans hb1; clear hb1
    go_wp2_with (first | (go_at_call 12; refine (has_any _ _ _ _ (by with_reducible assumption) (by with_reducible assumption) (by with_reducible assumption)).mono ?_; rintro e w1 ⟨rfl, hb1⟩; have HB := HB.trans hb1; clear hb1))
    go_ret
    exact ⟨by first | (simp; done) | (simp; omega), HB⟩
  · have eo : aluOk op = false := decide_eq_false hop
    clear hop hu
    replace ep1 := Lib.hid ep1
    replace eq1 := Lib.hid eq1
    replace ep2 := Lib.hid ep2
    replace eq2 := Lib.hid eq2
    replace ex := Lib.hid ex
    replace ey := Lib.hid ey
    replace ev := Lib.hid ev
    replace eo := Lib.hid eo
    go_enter Try.func6, Try.ntmps6
    go_wp2_with (first | (go_at_call 8; refine (bawake_any _).mono ?_; rintro e w1 ⟨rfl, hb1⟩; have HB := HB.trans hb1; clear hb1))
    refine (within_at l1 h1 f1 p1 q1 x _ ep1.out eq1.out ex.out kl1 kh1 kf1).mono ?_
    rintro e w1 ⟨rfl, hb1⟩; have HB := HB.trans hb1; clear hb1
    go_wp2_with fail
    refine (within_at l2 h2 f2 p2 q2 y _ ep2.out eq2.out ey.out kl2 kh2 kf2).mono ?_
    rintro e w1 ⟨rfl, hb1⟩; have HB := HB.trans hb1; clear hb1
    go_wp2_with fail
    refine (do_at op x y v _ _ ev.out eo.out (u32_nat kx) (u32_nat ky)).mono ?_
    rintro e w1 ⟨rfl, hb1⟩; have HB := HB.trans hb1; clear hb1
    go_wp2_with (first | (go_at_call 12; refine (has_any _ _ _ _ (by with_reducible assumption) (by with_reducible assumption) (by with_reducible assumption)).mono ?_; rintro e w1 ⟨rfl, hb1⟩; have HB := HB.trans hb1; clear hb1))
    go_ret
    exact ⟨by first | (simp; done) | (simp; omega), HB⟩
end Go.Proofs.Ytpmkefngngjhkaa
