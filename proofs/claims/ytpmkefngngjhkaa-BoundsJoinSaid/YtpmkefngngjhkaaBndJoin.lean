/- The law BoundsJoin: its walk. -/
import Derived.Test.YtpmkefngngjhkaaBndWithin
set_option linter.unusedVariables false
set_option linter.unusedSimpArgs false
namespace Go.Proofs.Ytpmkefngngjhkaa
open Go.RowKit
set_option maxHeartbeats 4000000 in
set_option maxRecDepth 100000 in
theorem BoundsJoin_walk (l1 h1 l2 h2 x : Int) (w : World) (wl1 : (Lit.int .u32 l1).wf = true) (wh1 : (Lit.int .u32 h1).wf = true) (wl2 : (Lit.int .u32 l2).wf = true) (wh2 : (Lit.int .u32 h2).wf = true) (wx : (Lit.int .u32 x).wf = true) :
    Calls Try.prog 3 #[.int .u32 l1, .int .u32 h1, .int .u32 l2, .int .u32 h2, .int .u32 x] w fun e w' => e = .returned (.bool true) ∧ Bel w w' := by
  obtain ⟨l1, rfl, kl1⟩ := nat_u32 (u32_of_wf wl1)
  obtain ⟨h1, rfl, kh1⟩ := nat_u32 (u32_of_wf wh1)
  obtain ⟨l2, rfl, kl2⟩ := nat_u32 (u32_of_wf wl2)
  obtain ⟨h2, rfl, kh2⟩ := nat_u32 (u32_of_wf wh2)
  obtain ⟨x, rfl, kx⟩ := nat_u32 (u32_of_wf wx)
  obtain ⟨p1, ep1⟩ : ∃ n, min l1 h1 = n := ⟨_, rfl⟩
  obtain ⟨q1, eq1⟩ : ∃ n, max l1 h1 = n := ⟨_, rfl⟩
  obtain ⟨p2, ep2⟩ : ∃ n, min l2 h2 = n := ⟨_, rfl⟩
  obtain ⟨q2, eq2⟩ : ∃ n, max l2 h2 = n := ⟨_, rfl⟩
  obtain ⟨p, ep⟩ : ∃ n, nmin p1 p2 = n := ⟨_, rfl⟩
  obtain ⟨q, eq⟩ : ∃ n, nmax q1 q2 = n := ⟨_, rfl⟩
  have ep' : nmin p2 p1 = p := by simp only [nmin] at *; omega
  have eq' : nmax q2 q1 = q := by simp only [nmax] at *; omega
  have es : nmin p1 p1 = p1 := by simp [nmin]
  have et : nmax q1 q1 = q1 := by simp [nmax]
  have i1 : p1 ≤ q1 := by omega
  have i2 : q1 < 4294967296 := by omega
  have i3 : p2 ≤ q2 := by omega
  have i4 : q2 < 4294967296 := by omega
  have i5 : p ≤ q := by simp only [nmin, nmax] at *; omega
  have i6 : q < 4294967296 := by simp only [nmin, nmax] at *; omega
  have o1 := ord_eq p (by omega)
  have o2 := ord_eq q (by omega)
  have o3 := ord_eq p1 (by omega)
  have o4 := ord_eq q1 (by omega)
  have g1 : decide (p ≤ l1 ∧ l1 ≤ q) = true := by simp only [nmin, nmax, decide_eq_true_eq] at *; omega
  have g2 : decide (p ≤ h2 ∧ h2 ≤ q) = true := by simp only [nmin, nmax, decide_eq_true_eq] at *; omega
  have s1 : p = l1 ∨ p = h1 ∨ p = l2 ∨ p = h2 := by simp only [nmin, nmax] at *; omega
  have s2 : q = l1 ∨ q = h1 ∨ q = l2 ∨ q = h2 := by simp only [nmin, nmax] at *; omega
  have s3 : p ≤ p1 ∧ p ≤ p2 ∧ q1 ≤ q ∧ q2 ≤ q := by simp only [nmin, nmax] at *; omega
  replace ep1 := Lib.hid ep1
  replace eq1 := Lib.hid eq1
  replace ep2 := Lib.hid ep2
  replace eq2 := Lib.hid eq2
  replace ep := Lib.hid ep
  replace eq := Lib.hid eq
  replace ep' := Lib.hid ep'
  replace eq' := Lib.hid eq'
  replace es := Lib.hid es
  replace et := Lib.hid et
  replace s1 := Lib.hid s1
  replace s2 := Lib.hid s2
  replace s3 := Lib.hid s3
  have HB := Bel.refl w
  go_enter Try.func3, Try.ntmps3
  go_wp2_with (first | (go_at_call 8; refine (bawake_any _).mono ?_; rintro e w1 ⟨rfl, hb1⟩; have HB := HB.trans hb1; clear hb1))
  refine (Of_at l1 h1 p1 q1 _ _ _ rfl rfl ep1.out eq1.out kl1 kh1).mono ?_
  rintro e w1 ⟨rfl, hb1⟩; have HB := HB.trans hb1; clear hb1
  go_wp2_with fail
  refine (Of_at l2 h2 p2 q2 _ _ _ rfl rfl ep2.out eq2.out kl2 kh2).mono ?_
  rintro e w1 ⟨rfl, hb1⟩; have HB := HB.trans hb1; clear hb1
  go_wp2_with fail
  refine (join_at p1 q1 p2 q2 p q _ ep.out eq.out i1 i2 i3 i4).mono ?_
  rintro e w1 ⟨rfl, hb1⟩; have HB := HB.trans hb1; clear hb1
  go_wp2_with (first | (go_at_call 11; refine (ends_any _ _ _ (by with_reducible assumption) (by with_reducible assumption)).mono ?_; rintro e w1 ⟨rfl, hb1⟩; have HB := HB.trans hb1; clear hb1))
  refine (join_at p2 q2 p1 q1 p q _ ep'.out eq'.out i3 i4 i1 i2).mono ?_
  rintro e w1 ⟨rfl, hb1⟩; have HB := HB.trans hb1; clear hb1
  go_wp2_with fail
  refine (join_at p1 q1 p1 q1 p1 q1 _ es.out et.out i1 i2 i1 i2).mono ?_
  rintro e w1 ⟨rfl, hb1⟩; have HB := HB.trans hb1; clear hb1
  go_wp2_with (first | (go_at_call 12; refine (has_any _ _ _ _ (by with_reducible assumption) (by with_reducible assumption) (by with_reducible assumption)).mono ?_; rintro e w1 ⟨rfl, hb1⟩; have HB := HB.trans hb1; clear hb1))
  all_goals first | (go_ret; refine ⟨?_, HB⟩; simp; done) | (exfalso; have t1 := s1.out; have t2 := s2.out; have t3 := s3.out; clear o1 o2 o3 o4; simp at *; omega) | go_show
end Go.Proofs.Ytpmkefngngjhkaa
