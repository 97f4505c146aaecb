/- bounds.Cut and Alu, at whatever they come to (cut from BndLaws for chapter 11). -/
import Derived.Test.YtebdnobgdimdoaaBnd7
import Derived.Sort.AtCall
set_option linter.unusedVariables false
set_option linter.unusedSimpArgs false
namespace Go.Proofs.Ytebdnobgdimdoaa
open Go.RowKit
theorem cut_any (c : Int) (l1 h1 l2 h2 : Nat) (w : World) (hl1 : l1 ≤ h1) (hh1 : h1 < 4294967296) (hl2 : l2 ≤ h2) (hh2 : h2 < 4294967296) :
    Calls Try.prog 70 #[.int .i64 c, .complex .f64 (fl l1) (fl h1), .complex .f64 (fl l2) (fl h2)] w fun e w' => e = .returned (.tuple #[.complex .f64 (fl (cutS c l1 h1 l2 h2).1) (fl (cutS c l1 h1 l2 h2).2.1), .bool (cutS c l1 h1 l2 h2).2.2]) ∧ Bel w w' := by
  unfold cutS
  split
  · subst_vars; split
    · exact cut_eq l1 h1 l2 h2 w hl1 hh1 hl2 hh2 ‹_›
    · exact cut_eqN l1 h1 l2 h2 w hl1 hh1 hl2 hh2 ‹_›
  split
  · subst c; split
    · split
      · split
        · exact cut_ne1 l1 h1 l2 h2 w hl1 hh1 hl2 hh2 ‹_› ‹_› ‹_›
        · exact cut_ne2 l1 h1 l2 h2 w hl1 hh1 hl2 hh2 ‹_› ‹_› ‹_›
      · split
        · exact cut_ne3 l1 h1 l2 h2 w hl1 hh1 hl2 hh2 ‹_› ‹_› ‹_›
        · exact cut_ne4 l1 h1 l2 h2 w hl1 hh1 hl2 hh2 ‹_› ‹_› ‹_›
    · exact cut_ne0 l1 h1 l2 h2 w hl1 hh1 hl2 hh2 ‹_›
  split
  · subst c; split
    · split
      · exact cut_lt l1 h1 l2 h2 w hl1 hh1 hl2 hh2 ‹_› ‹_›
      · exact cut_ltN l1 h1 l2 h2 w hl1 hh1 hl2 hh2 ‹_› ‹_›
    · exact cut_ltZ l1 h1 l2 h2 w hl1 hh1 hl2 hh2 (by omega)
  split
  · subst c; split
    · exact cut_ge l1 h1 l2 h2 w hl1 hh1 hl2 hh2 ‹_›
    · exact cut_geN l1 h1 l2 h2 w hl1 hh1 hl2 hh2 ‹_›
  · exact cut_oth l1 h1 l2 h2 w hl1 hh1 hl2 hh2 c ‹_› ‹_› ‹_› ‹_›
theorem cut_at (c : Int) (l1 h1 l2 h2 p q : Nat) (b : Bool) (w : World) (hr : cutS c l1 h1 l2 h2 = (p, q, b)) (hl1 : l1 ≤ h1) (hh1 : h1 < 4294967296) (hl2 : l2 ≤ h2) (hh2 : h2 < 4294967296) :
    Calls Try.prog 70 #[.int .i64 c, .complex .f64 (fl l1) (fl h1), .complex .f64 (fl l2) (fl h2)] w fun e w' => e = .returned (.tuple #[.complex .f64 (fl p) (fl q), .bool b]) ∧ Bel w w' := by
  have := cut_any c l1 h1 l2 h2 w hl1 hh1 hl2 hh2
  rw [hr] at this; exact this
theorem balu_at (op l1 h1 l2 h2 p q : Nat) (x : Int) (w : World) (hx : x = op) (hr : aluS op l1 h1 l2 h2 = (p, q)) (hop : op < 11) (hl1 : l1 ≤ h1) (hh1 : h1 < 4294967296) (hl2 : l2 ≤ h2) (hh2 : h2 < 4294967296) :
    Calls Try.prog 67 #[.int .i64 x, .complex .f64 (fl l1) (fl h1), .complex .f64 (fl l2) (fl h2)] w fun e w' => e = .returned (.complex .f64 (fl p) (fl q)) ∧ Bel w w' := by
  have := balu_any op l1 h1 l2 h2 w hop hl1 hh1 hl2 hh2
  rw [hr] at this; subst hx; exact this
end Go.Proofs.Ytebdnobgdimdoaa
