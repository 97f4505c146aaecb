/- The law BoundsCut: its walk. -/
import Derived.Test.YtpmkefngngjhkaaBndWithin
set_option linter.unusedVariables false
set_option linter.unusedSimpArgs false
namespace Go.Proofs.Ytpmkefngngjhkaa
open Go.RowKit
theorem cutS_law (c : Int) {p1 q1 p2 q2 x y p q : Nat} {s : Bool} (hr : cutS c p1 q1 p2 q2 = (p, q, s)) (h1 : p1 ≤ x) (h2 : x ≤ q1) (h3 : p2 ≤ y) (h4 : y ≤ q2) (hq : q1 < 4294967296) :
    p ≤ q ∧ q < 4294967296 ∧ (holdsOk c = true → holdsI c x y = true → s = true ∧ p ≤ x ∧ x ≤ q) ∧ (s = true → p1 ≤ p ∧ q ≤ q1) := by
  simp only [cutS] at hr
  simp only [holdsOk, holdsI, decide_eq_true_eq]
  repeat' split at hr
  all_goals cases hr
  all_goals (try simp only [nmin, nmax] at *)
  all_goals refine ⟨by omega, by omega, ?_, by first | (simp; done) | (intro _; omega)⟩
  all_goals (intro k1 k2)
  all_goals (try subst_vars)
  all_goals first | (simp at k2; first | (exfalso; omega) | (refine ⟨?_, ?_, ?_⟩ <;> first | omega | (simp; done))) | (refine ⟨?_, ?_, ?_⟩ <;> first | omega | (simp; done))
theorem holds_at (c x y : Int) (i o : Bool) (w : World) (hi : holdsI c x y = i) (ho : holdsOk c = o) :
    Calls Try.prog 15 #[.int .i64 c, .int .u32 x, .int .u32 y] w fun e w' => e = .returned (.tuple #[.bool i, .bool o]) ∧ Bel w w' := by
  subst hi; subst ho; exact holds_any c x y w
set_option maxHeartbeats 4000000 in
set_option maxRecDepth 100000 in
theorem BoundsCut_walk (c l1 h1 f1 l2 h2 f2 : Int) (w : World) (wc : (Lit.int .i64 c).wf = true) (wl1 : (Lit.int .u32 l1).wf = true) (wh1 : (Lit.int .u32 h1).wf = true) (wf1 : (Lit.int .u32 f1).wf = true) (wl2 : (Lit.int .u32 l2).wf = true) (wh2 : (Lit.int .u32 h2).wf = true) (wf2 : (Lit.int .u32 f2).wf = true) :
    Calls Try.prog 5 #[.int .i64 c, .int .u32 l1, .int .u32 h1, .int .u32 f1, .int .u32 l2, .int .u32 h2, .int .u32 f2] w fun e w' => e = .returned (.bool true) ∧ Bel w w' := by
  obtain ⟨l1, rfl, kl1⟩ := nat_u32 (u32_of_wf wl1)
  obtain ⟨h1, rfl, kh1⟩ := nat_u32 (u32_of_wf wh1)
  obtain ⟨f1, rfl, kf1⟩ := nat_u32 (u32_of_wf wf1)
  obtain ⟨l2, rfl, kl2⟩ := nat_u32 (u32_of_wf wl2)
  obtain ⟨h2, rfl, kh2⟩ := nat_u32 (u32_of_wf wh2)
  obtain ⟨f2, rfl, kf2⟩ := nat_u32 (u32_of_wf wf2)
  obtain ⟨p1, ep1⟩ : ∃ n, min l1 h1 = n := ⟨_, rfl⟩
  obtain ⟨q1, eq1⟩ : ∃ n, max l1 h1 = n := ⟨_, rfl⟩
  obtain ⟨p2, ep2⟩ : ∃ n, min l2 h2 = n := ⟨_, rfl⟩
  obtain ⟨q2, eq2⟩ : ∃ n, max l2 h2 = n := ⟨_, rfl⟩
  obtain ⟨x, ex⟩ : ∃ n, p1 + f1 % (q1 - p1 + 1) = n := ⟨_, rfl⟩
  obtain ⟨y, ey⟩ : ∃ n, p2 + f2 % (q2 - p2 + 1) = n := ⟨_, rfl⟩
  have i1 : p1 ≤ q1 := by omega
  have i2 : q1 < 4294967296 := by omega
  have i3 : p2 ≤ q2 := by omega
  have i4 : q2 < 4294967296 := by omega
  have j1 : x ≤ q1 := by have := within_le (f := f1) i1; omega
  have j2 : y ≤ q2 := by have := within_le (f := f2) i3; omega
  obtain ⟨i, ei⟩ : ∃ n, holdsI c x y = n := ⟨_, rfl⟩
  obtain ⟨o, eo⟩ : ∃ n, holdsOk c = n := ⟨_, rfl⟩
  obtain ⟨⟨p, q, s⟩, ec⟩ : ∃ n, cutS c p1 q1 p2 q2 = n := ⟨_, rfl⟩
  obtain ⟨i5, i6, z1, z2⟩ := cutS_law (x := x) (y := y) c ec (by omega) j1 (by omega) j2 i2
  rw [ei, eo] at z1
  have kx : x < 4294967296 := by omega
  replace ep1 := Lib.hid ep1
  replace eq1 := Lib.hid eq1
  replace ep2 := Lib.hid ep2
  replace eq2 := Lib.hid eq2
  replace ex := Lib.hid ex
  replace ey := Lib.hid ey
  replace ei := Lib.hid ei
  replace eo := Lib.hid eo
  replace ec := Lib.hid ec
  have HB := Bel.refl w
  by_cases hs : s = true
  · subst hs
    obtain ⟨z3, z4⟩ := z2 rfl
    have g1 : decide (p1 ≤ p ∧ p ≤ q1) = true := by simp only [decide_eq_true_eq]; omega
    have g2 : decide (p1 ≤ q ∧ q ≤ q1) = true := by simp only [decide_eq_true_eq]; omega
    have kp : p < 4294967296 := by omega
    by_cases ho : o = true
    · subst ho
      by_cases hi : i = true
      · subst hi
        have g3 : decide (p ≤ x ∧ x ≤ q) = true := by simp only [decide_eq_true_eq]; have := z1 rfl rfl; omega
        clear z1 z2
        go_enter Try.func5, Try.ntmps5
        go_wp2_with (first | (go_at_call 8; refine (bawake_any _).mono ?_; rintro e w1 ⟨rfl, hb1⟩; have HB := HB.trans hb1; clear hb1))
        refine (within_at l1 h1 f1 p1 q1 x _ ep1.out eq1.out ex.out kl1 kh1 kf1).mono ?_
        rintro e w1 ⟨rfl, hb1⟩; have HB := HB.trans hb1; clear hb1
        go_wp2_with fail
        refine (within_at l2 h2 f2 p2 q2 y _ ep2.out eq2.out ey.out kl2 kh2 kf2).mono ?_
        rintro e w1 ⟨rfl, hb1⟩; have HB := HB.trans hb1; clear hb1
        go_wp2_with fail
        refine (holds_at c x y _ _ _ ei.out eo.out).mono ?_
        rintro e w1 ⟨rfl, hb1⟩; have HB := HB.trans hb1; clear hb1
        go_wp2_with fail
        refine (cut_at c p1 q1 p2 q2 p q _ _ ec.out i1 i2 i3 i4).mono ?_
        rintro e w1 ⟨rfl, hb1⟩; have HB := HB.trans hb1; clear hb1
        go_wp2_with (first | (go_at_call 11; refine (ends_any _ _ _ (by with_reducible assumption) (by with_reducible assumption)).mono ?_; rintro e w1 ⟨rfl, hb1⟩; have HB := HB.trans hb1; clear hb1))
        go_wp2_with (first | (go_at_call 12; refine (has_any _ _ _ _ (by with_reducible assumption) (by with_reducible assumption) (by with_reducible assumption)).mono ?_; rintro e w1 ⟨rfl, hb1⟩; have HB := HB.trans hb1; clear hb1))
        go_ret
        exact ⟨by first | (simp; done) | (simp; omega), HB⟩
      · obtain rfl : i = false := by simpa using hi
        clear z1 z2
        go_enter Try.func5, Try.ntmps5
        go_wp2_with (first | (go_at_call 8; refine (bawake_any _).mono ?_; rintro e w1 ⟨rfl, hb1⟩; have HB := HB.trans hb1; clear hb1))
        refine (within_at l1 h1 f1 p1 q1 x _ ep1.out eq1.out ex.out kl1 kh1 kf1).mono ?_
        rintro e w1 ⟨rfl, hb1⟩; have HB := HB.trans hb1; clear hb1
        go_wp2_with fail
        refine (within_at l2 h2 f2 p2 q2 y _ ep2.out eq2.out ey.out kl2 kh2 kf2).mono ?_
        rintro e w1 ⟨rfl, hb1⟩; have HB := HB.trans hb1; clear hb1
        go_wp2_with fail
        refine (holds_at c x y _ _ _ ei.out eo.out).mono ?_
        rintro e w1 ⟨rfl, hb1⟩; have HB := HB.trans hb1; clear hb1
        go_wp2_with fail
        refine (cut_at c p1 q1 p2 q2 p q _ _ ec.out i1 i2 i3 i4).mono ?_
        rintro e w1 ⟨rfl, hb1⟩; have HB := HB.trans hb1; clear hb1
        go_wp2_with (first | (go_at_call 11; refine (ends_any _ _ _ (by with_reducible assumption) (by with_reducible assumption)).mono ?_; rintro e w1 ⟨rfl, hb1⟩; have HB := HB.trans hb1; clear hb1))
        go_wp2_with (first | (go_at_call 12; refine (has_any _ _ _ _ (by with_reducible assumption) (by with_reducible assumption) (by with_reducible assumption)).mono ?_; rintro e w1 ⟨rfl, hb1⟩; have HB := HB.trans hb1; clear hb1))
        go_ret
        exact ⟨by first | (simp; done) | (simp; omega), HB⟩
    · obtain rfl : o = false := by simpa using ho
      clear z1 z2
      go_enter Try.func5, Try.ntmps5
      go_wp2_with (first | (go_at_call 8; refine (bawake_any _).mono ?_; rintro e w1 ⟨rfl, hb1⟩; have HB := HB.trans hb1; clear hb1))
      refine (within_at l1 h1 f1 p1 q1 x _ ep1.out eq1.out ex.out kl1 kh1 kf1).mono ?_
      rintro e w1 ⟨rfl, hb1⟩; have HB := HB.trans hb1; clear hb1
      go_wp2_with fail
      refine (within_at l2 h2 f2 p2 q2 y _ ep2.out eq2.out ey.out kl2 kh2 kf2).mono ?_
      rintro e w1 ⟨rfl, hb1⟩; have HB := HB.trans hb1; clear hb1
      go_wp2_with fail
      refine (holds_at c x y _ _ _ ei.out eo.out).mono ?_
      rintro e w1 ⟨rfl, hb1⟩; have HB := HB.trans hb1; clear hb1
      go_wp2_with fail
      refine (cut_at c p1 q1 p2 q2 p q _ _ ec.out i1 i2 i3 i4).mono ?_
      rintro e w1 ⟨rfl, hb1⟩; have HB := HB.trans hb1; clear hb1
      go_wp2_with (first | (go_at_call 11; refine (ends_any _ _ _ (by with_reducible assumption) (by with_reducible assumption)).mono ?_; rintro e w1 ⟨rfl, hb1⟩; have HB := HB.trans hb1; clear hb1))
      go_wp2_with (first | (go_at_call 12; refine (has_any _ _ _ _ (by with_reducible assumption) (by with_reducible assumption) (by with_reducible assumption)).mono ?_; rintro e w1 ⟨rfl, hb1⟩; have HB := HB.trans hb1; clear hb1))
      go_ret
      exact ⟨by first | (simp; done) | (simp; omega), HB⟩
  · obtain rfl : s = false := by simpa using hs
    clear z2
    by_cases ho : o = true
    · subst ho
      by_cases hi : i = true
      · subst hi
        exact absurd (z1 rfl rfl).1 (by decide)
      · obtain rfl : i = false := by simpa using hi
        clear z1
        go_enter Try.func5, Try.ntmps5
        go_wp2_with (first | (go_at_call 8; refine (bawake_any _).mono ?_; rintro e w1 ⟨rfl, hb1⟩; have HB := HB.trans hb1; clear hb1))
        refine (within_at l1 h1 f1 p1 q1 x _ ep1.out eq1.out ex.out kl1 kh1 kf1).mono ?_
        rintro e w1 ⟨rfl, hb1⟩; have HB := HB.trans hb1; clear hb1
        go_wp2_with fail
        refine (within_at l2 h2 f2 p2 q2 y _ ep2.out eq2.out ey.out kl2 kh2 kf2).mono ?_
        rintro e w1 ⟨rfl, hb1⟩; have HB := HB.trans hb1; clear hb1
        go_wp2_with fail
        refine (holds_at c x y _ _ _ ei.out eo.out).mono ?_
        rintro e w1 ⟨rfl, hb1⟩; have HB := HB.trans hb1; clear hb1
        go_wp2_with fail
        refine (cut_at c p1 q1 p2 q2 p q _ _ ec.out i1 i2 i3 i4).mono ?_
        rintro e w1 ⟨rfl, hb1⟩; have HB := HB.trans hb1; clear hb1
        go_wp2_with (first | (go_at_call 11; refine (ends_any _ _ _ (by with_reducible assumption) (by with_reducible assumption)).mono ?_; rintro e w1 ⟨rfl, hb1⟩; have HB := HB.trans hb1; clear hb1))
        go_wp2_with (first | (go_at_call 12; refine (has_any _ _ _ _ (by with_reducible assumption) (by with_reducible assumption) (by with_reducible assumption)).mono ?_; rintro e w1 ⟨rfl, hb1⟩; have HB := HB.trans hb1; clear hb1))
        go_ret
        exact ⟨by first | (simp; done) | (simp; omega), HB⟩
    · obtain rfl : o = false := by simpa using ho
      clear z1
      go_enter Try.func5, Try.ntmps5
      go_wp2_with (first | (go_at_call 8; refine (bawake_any _).mono ?_; rintro e w1 ⟨rfl, hb1⟩; have HB := HB.trans hb1; clear hb1))
      refine (within_at l1 h1 f1 p1 q1 x _ ep1.out eq1.out ex.out kl1 kh1 kf1).mono ?_
      rintro e w1 ⟨rfl, hb1⟩; have HB := HB.trans hb1; clear hb1
      go_wp2_with fail
      refine (within_at l2 h2 f2 p2 q2 y _ ep2.out eq2.out ey.out kl2 kh2 kf2).mono ?_
      rintro e w1 ⟨rfl, hb1⟩; have HB := HB.trans hb1; clear hb1
      go_wp2_with fail
      refine (holds_at c x y _ _ _ ei.out eo.out).mono ?_
      rintro e w1 ⟨rfl, hb1⟩; have HB := HB.trans hb1; clear hb1
      go_wp2_with fail
      refine (cut_at c p1 q1 p2 q2 p q _ _ ec.out i1 i2 i3 i4).mono ?_
      rintro e w1 ⟨rfl, hb1⟩; have HB := HB.trans hb1; clear hb1
      go_wp2_with (first | (go_at_call 11; refine (ends_any _ _ _ (by with_reducible assumption) (by with_reducible assumption)).mono ?_; rintro e w1 ⟨rfl, hb1⟩; have HB := HB.trans hb1; clear hb1))
      go_wp2_with (first | (go_at_call 12; refine (has_any _ _ _ _ (by with_reducible assumption) (by with_reducible assumption) (by with_reducible assumption)).mono ?_; rintro e w1 ⟨rfl, hb1⟩; have HB := HB.trans hb1; clear hb1))
      go_ret
      exact ⟨by first | (simp; done) | (simp; omega), HB⟩
end Go.Proofs.Ytpmkefngngjhkaa
