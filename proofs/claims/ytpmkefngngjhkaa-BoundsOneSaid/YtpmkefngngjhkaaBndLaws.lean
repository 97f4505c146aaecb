/- The laws of bounds. -/
import Derived.Test.YtpmkefngngjhkaaBnd7
import Derived.Test.YtpmkefngngjhkaaAluCalls
import Derived.Sort.AtCall
set_option linter.unusedVariables false
set_option linter.unusedSimpArgs false
namespace Go.Proofs.Ytpmkefngngjhkaa
open Go.RowKit
theorem cut_any (c : Int) (l1 h1 l2 h2 : Nat) (w : World) (hl1 : l1 ≤ h1) (hh1 : h1 < 4294967296) (hl2 : l2 ≤ h2) (hh2 : h2 < 4294967296) :
    Calls Try.prog 16 #[.int .i64 c, .complex .f64 (fl l1) (fl h1), .complex .f64 (fl l2) (fl h2)] w fun e w' => e = .returned (.tuple #[.complex .f64 (fl (cutS c l1 h1 l2 h2).1) (fl (cutS c l1 h1 l2 h2).2.1), .bool (cutS c l1 h1 l2 h2).2.2]) ∧ Bel w w' := by
  unfold cutS
  split
  · subst_vars; split
    · exact cut_eq l1 h1 l2 h2 w hl1 hh1 hl2 hh2 ‹_›
    · exact cut_eqN l1 h1 l2 h2 w hl1 hh1 hl2 hh2 ‹_›
  split
  · subst c; split
    · split
      · split
        · exact cut_ne1 l1 h1 l2 h2 w hl1 hh1 hl2 hh2 ‹_› ‹_› ‹_›
        · exact cut_ne2 l1 h1 l2 h2 w hl1 hh1 hl2 hh2 ‹_› ‹_› ‹_›
      · split
        · exact cut_ne3 l1 h1 l2 h2 w hl1 hh1 hl2 hh2 ‹_› ‹_› ‹_›
        · exact cut_ne4 l1 h1 l2 h2 w hl1 hh1 hl2 hh2 ‹_› ‹_› ‹_›
    · exact cut_ne0 l1 h1 l2 h2 w hl1 hh1 hl2 hh2 ‹_›
  split
  · subst c; split
    · split
      · exact cut_lt l1 h1 l2 h2 w hl1 hh1 hl2 hh2 ‹_› ‹_›
      · exact cut_ltN l1 h1 l2 h2 w hl1 hh1 hl2 hh2 ‹_› ‹_›
    · exact cut_ltZ l1 h1 l2 h2 w hl1 hh1 hl2 hh2 (by omega)
  split
  · subst c; split
    · exact cut_ge l1 h1 l2 h2 w hl1 hh1 hl2 hh2 ‹_›
    · exact cut_geN l1 h1 l2 h2 w hl1 hh1 hl2 hh2 ‹_›
  · exact cut_oth l1 h1 l2 h2 w hl1 hh1 hl2 hh2 c ‹_› ‹_› ‹_› ‹_›
theorem cut_at (c : Int) (l1 h1 l2 h2 p q : Nat) (b : Bool) (w : World) (hr : cutS c l1 h1 l2 h2 = (p, q, b)) (hl1 : l1 ≤ h1) (hh1 : h1 < 4294967296) (hl2 : l2 ≤ h2) (hh2 : h2 < 4294967296) :
    Calls Try.prog 16 #[.int .i64 c, .complex .f64 (fl l1) (fl h1), .complex .f64 (fl l2) (fl h2)] w fun e w' => e = .returned (.tuple #[.complex .f64 (fl p) (fl q), .bool b]) ∧ Bel w w' := by
  have := cut_any c l1 h1 l2 h2 w hl1 hh1 hl2 hh2
  rw [hr] at this; exact this
theorem balu_at (op l1 h1 l2 h2 p q : Nat) (x : Int) (w : World) (hx : x = op) (hr : aluS op l1 h1 l2 h2 = (p, q)) (hop : op < 11) (hl1 : l1 ≤ h1) (hh1 : h1 < 4294967296) (hl2 : l2 ≤ h2) (hh2 : h2 < 4294967296) :
    Calls Try.prog 13 #[.int .i64 x, .complex .f64 (fl l1) (fl h1), .complex .f64 (fl l2) (fl h2)] w fun e w' => e = .returned (.complex .f64 (fl p) (fl q)) ∧ Bel w w' := by
  have := balu_any op l1 h1 l2 h2 w hop hl1 hh1 hl2 hh2
  rw [hr] at this; subst hx; exact this
theorem Of_at (a b p q : Nat) (x y : Int) (w : World) (hx : x = a) (hy : y = b) (hp : min a b = p) (hq : max a b = q) (ha : a < 4294967296) (hb : b < 4294967296) :
    Calls Try.prog 9 #[.int .u32 x, .int .u32 y] w fun e w' => e = .returned (.complex .f64 (fl p) (fl q)) ∧ Bel w w' := by
  subst hx; subst hy; subst hp; subst hq; exact Of_any a b w ha hb
theorem has_at (l h x : Nat) (y : Int) (b : Bool) (w : World) (hy : y = x) (hb : decide (l ≤ x ∧ x ≤ h) = b) (hl : l ≤ h) (hh : h < 4294967296) (hx : x < 4294967296) :
    Calls Try.prog 12 #[.complex .f64 (fl l) (fl h), .int .u32 y] w fun e w' => e = .returned (.bool b) ∧ Bel w w' := by
  subst hy; subst hb; exact has_any l h x w hl hh hx
theorem ord_fl {a b : Nat} (ha : a < 4294967296) (hb : b < 4294967296) : FloatKind.f64.format.order (fl a) (fl b) = some (compare a b) := order_fl (by omega) (by omega)
theorem ord_eq (n : Nat) (h : n < 4294967296) : FloatKind.f64.format.order (fl n) (fl n) = some .eq := by rw [ord_fl h h]; simp
theorem ex1 : cutS 3 0 9 4 6 = (0, 5, true) := by simp [cutS, nmin]
theorem ex2 : aluS 1 1 3 10 20 = (11, 23) := by simp [aluS, fitS]
set_option maxHeartbeats 1000000 in
theorem bawake_any (w : World) : Calls Try.prog 8 #[] w fun e w' => e = .returned (.bool true) ∧ Bel w w' := by
  have HB := Bel.refl w
  have o1 := ord_eq 11 (by decide)
  have o2 := ord_eq 23 (by decide)
  have o3 := ord_eq 0 (by decide)
  have o4 := ord_eq 5 (by decide)
  go_enter Try.func8, Try.ntmps8
  go_wp2_with (first | (go_at_call_has 9 (Value.int IntKind.u32 9); refine (Of_at 0 9 0 9 _ _ _ (by rfl) (by rfl) (by decide) (by decide) (by decide) (by decide)).mono ?_; rintro e w1 ⟨rfl, hb1⟩; have HB := HB.trans hb1; clear hb1) | (go_at_call_has 9 (Value.int IntKind.u32 6); refine (Of_at 4 6 4 6 _ _ _ (by rfl) (by rfl) (by decide) (by decide) (by decide) (by decide)).mono ?_; rintro e w1 ⟨rfl, hb1⟩; have HB := HB.trans hb1; clear hb1) | (go_at_call_has 9 (Value.int IntKind.u32 3); refine (Of_at 1 3 1 3 _ _ _ (by rfl) (by rfl) (by decide) (by decide) (by decide) (by decide)).mono ?_; rintro e w1 ⟨rfl, hb1⟩; have HB := HB.trans hb1; clear hb1) | (go_at_call_has 9 (Value.int IntKind.u32 20); refine (Of_at 10 20 10 20 _ _ _ (by rfl) (by rfl) (by decide) (by decide) (by decide) (by decide)).mono ?_; rintro e w1 ⟨rfl, hb1⟩; have HB := HB.trans hb1; clear hb1) | (go_at_call_has 9 (Value.int IntKind.u32 23); refine (Of_at 11 23 11 23 _ _ _ (by rfl) (by rfl) (by decide) (by decide) (by decide) (by decide)).mono ?_; rintro e w1 ⟨rfl, hb1⟩; have HB := HB.trans hb1; clear hb1) | (go_at_call_has 9 (Value.int IntKind.u32 5); refine (Of_at 0 5 0 5 _ _ _ (by rfl) (by rfl) (by decide) (by decide) (by decide) (by decide)).mono ?_; rintro e w1 ⟨rfl, hb1⟩; have HB := HB.trans hb1; clear hb1) | (go_at_call 16; refine (cut_at 3 0 9 4 6 0 5 true _ ex1 (by decide) (by decide) (by decide) (by decide)).mono ?_; rintro e w1 ⟨rfl, hb1⟩; have HB := HB.trans hb1; clear hb1) | (go_at_call 13; refine (balu_at 1 1 3 10 20 11 23 _ _ (by rfl) ex2 (by decide) (by decide) (by decide) (by decide) (by decide)).mono ?_; rintro e w1 ⟨rfl, hb1⟩; have HB := HB.trans hb1; clear hb1) | (go_at_call_has 12 (Value.int IntKind.u32 5); refine (has_at 0 5 5 _ true _ (by rfl) (by decide) (by decide) (by decide) (by decide)).mono ?_; rintro e w1 ⟨rfl, hb1⟩; have HB := HB.trans hb1; clear hb1) | (go_at_call_has 12 (Value.int IntKind.u32 6); refine (has_at 0 5 6 _ false _ (by rfl) (by decide) (by decide) (by decide) (by decide)).mono ?_; rintro e w1 ⟨rfl, hb1⟩; have HB := HB.trans hb1; clear hb1))
  all_goals go_ret
  all_goals exact ⟨by simp, HB⟩
end Go.Proofs.Ytpmkefngngjhkaa
