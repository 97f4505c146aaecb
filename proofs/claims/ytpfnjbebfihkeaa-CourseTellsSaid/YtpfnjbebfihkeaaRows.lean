/-
  No cell of these rows narrows 'for every input' (looked for: loops, veiled, ifaces, maps, wideKeys, modest, calm, conditions, laid).
  DERIVED. THE GIVEN ROWS OF THIS SEAT. 6 by the template 'for every input the law returns true; each argument reads behind the call as it read before'; 0 by the template 'total and deterministic' (their statements: YtpfnjbebfihkeaaTotals.lean).
  GIVEN WITH THE SEED: the statements are not yours to turn. If you find one false, say at which input.
  Laid BY PROGRAM, IN A SANDBOX (cutbox-rows.mjs): the forced cells as the released guide's own fill.sh prints them over the translation 4ee56c3eadf98647… (all of the seat's roots in one cut). By AI agents, Wed Nov 11 2026. No macro, syntax, notation, axiom, sorry.
-/
import Derived.Test.YtpfnjbebfihkeaaChecked
import GoSem.Claim
import GoSem.ClaimJoined
import GoSem.ClaimMapViews
import Derived.JoinedTies
import Derived.KernelRfl
namespace Go.Proofs.Ytpfnjbebfihkeaa
/- THE CELL 'sum', in the pinned program and in every row, IS THE sha256 OF THE DUMP (.gsa) THAT YtpfnjbebfihkeaaProg.lean LOADS. Nothing in Lean hashes anything: it is a label: what it is worth is what the hold of that sum in a sandbox is worth. -/
noncomputable def Try.pinned : Pinned := { name := "ytpfnjbebfihkeaa", sum := "4ee56c3eadf98647eb68171a283f5841c70ba7ac394b90e733936c9482689396", checked := Try.checked }
namespace Rows
def none {H : Type} : Left H := { results := [], args := [] }

/-- 'drydocklaw08.CourseTells': WHATEVER THE INPUT: true; the input reads as it did. -/
def courseTellsSpec : ChangeSpec := { name := "courseTells", fn := fun _ => fun
  | [d1, d2, d3, d4] => { results := [.lit (.bool true)], args := [d1, d2, d3, d4] }
  | _ => none }
def courseTellsRow : OpenClaim := { program := "ytpfnjbebfihkeaa", sum := "4ee56c3eadf98647eb68171a283f5841c70ba7ac394b90e733936c9482689396", func := "drydock/drydocklaw08.CourseTells", spec := "courseTells", unfollowed := true, recurses := true, apart := false }
def CourseTellsSaid : Prop := courseTellsRow.holds Try.pinned (OpenSpec.ofChange courseTellsSpec)

/-- ITS FALSE NEIGHBOUR: 'it returns false'. Refute it at one input. -/
def courseTellsWrong : ChangeSpec := { name := "courseTells", fn := fun _ => fun
  | [d1, d2, d3, d4] => { results := [.lit (.bool false)], args := [d1, d2, d3, d4] }
  | _ => none }
def CourseTellsWrongFalsely : Prop := courseTellsRow.holds Try.pinned (OpenSpec.ofChange courseTellsWrong)

/-- 'drydocklaw08.CourseForward': WHATEVER THE INPUT: true; the input reads as it did. -/
def courseForwardSpec : ChangeSpec := { name := "courseForward", fn := fun _ => fun
  | [d] => { results := [.lit (.bool true)], args := [d] }
  | _ => none }
def courseForwardRow : OpenClaim := { program := "ytpfnjbebfihkeaa", sum := "4ee56c3eadf98647eb68171a283f5841c70ba7ac394b90e733936c9482689396", func := "drydock/drydocklaw08.CourseForward", spec := "courseForward", unfollowed := true, recurses := true, apart := false }
def CourseForwardSaid : Prop := courseForwardRow.holds Try.pinned (OpenSpec.ofChange courseForwardSpec)

/-- ITS FALSE NEIGHBOUR: 'it returns false'. Refute it at one input. -/
def courseForwardWrong : ChangeSpec := { name := "courseForward", fn := fun _ => fun
  | [d] => { results := [.lit (.bool false)], args := [d] }
  | _ => none }
def CourseForwardWrongFalsely : Prop := courseForwardRow.holds Try.pinned (OpenSpec.ofChange courseForwardWrong)

/-- 'drydocklaw08.CourseBudget': WHATEVER THE INPUT: true; the input reads as it did. -/
def courseBudgetSpec : ChangeSpec := { name := "courseBudget", fn := fun _ => fun
  | [d1, d2] => { results := [.lit (.bool true)], args := [d1, d2] }
  | _ => none }
def courseBudgetRow : OpenClaim := { program := "ytpfnjbebfihkeaa", sum := "4ee56c3eadf98647eb68171a283f5841c70ba7ac394b90e733936c9482689396", func := "drydock/drydocklaw08.CourseBudget", spec := "courseBudget", unfollowed := true, recurses := true, apart := false }
def CourseBudgetSaid : Prop := courseBudgetRow.holds Try.pinned (OpenSpec.ofChange courseBudgetSpec)

/-- ITS FALSE NEIGHBOUR: 'it returns false'. Refute it at one input. -/
def courseBudgetWrong : ChangeSpec := { name := "courseBudget", fn := fun _ => fun
  | [d1, d2] => { results := [.lit (.bool false)], args := [d1, d2] }
  | _ => none }
def CourseBudgetWrongFalsely : Prop := courseBudgetRow.holds Try.pinned (OpenSpec.ofChange courseBudgetWrong)

/-- 'drydocklaw08.CourseCosts': WHATEVER THE INPUT: true; the input reads as it did. -/
def courseCostsSpec : ChangeSpec := { name := "courseCosts", fn := fun _ => fun
  | [d1, d2, d3] => { results := [.lit (.bool true)], args := [d1, d2, d3] }
  | _ => none }
def courseCostsRow : OpenClaim := { program := "ytpfnjbebfihkeaa", sum := "4ee56c3eadf98647eb68171a283f5841c70ba7ac394b90e733936c9482689396", func := "drydock/drydocklaw08.CourseCosts", spec := "courseCosts", unfollowed := true, recurses := true, apart := false }
def CourseCostsSaid : Prop := courseCostsRow.holds Try.pinned (OpenSpec.ofChange courseCostsSpec)

/-- ITS FALSE NEIGHBOUR: 'it returns false'. Refute it at one input. -/
def courseCostsWrong : ChangeSpec := { name := "courseCosts", fn := fun _ => fun
  | [d1, d2, d3] => { results := [.lit (.bool false)], args := [d1, d2, d3] }
  | _ => none }
def CourseCostsWrongFalsely : Prop := courseCostsRow.holds Try.pinned (OpenSpec.ofChange courseCostsWrong)

/-- 'drydocklaw08.CourseTail': WHATEVER THE INPUT: true; the input reads as it did. -/
def courseTailSpec : ChangeSpec := { name := "courseTail", fn := fun _ => fun
  | [d1, d2] => { results := [.lit (.bool true)], args := [d1, d2] }
  | _ => none }
def courseTailRow : OpenClaim := { program := "ytpfnjbebfihkeaa", sum := "4ee56c3eadf98647eb68171a283f5841c70ba7ac394b90e733936c9482689396", func := "drydock/drydocklaw08.CourseTail", spec := "courseTail", unfollowed := true, recurses := true, apart := false }
def CourseTailSaid : Prop := courseTailRow.holds Try.pinned (OpenSpec.ofChange courseTailSpec)

/-- ITS FALSE NEIGHBOUR: 'it returns false'. Refute it at one input. -/
def courseTailWrong : ChangeSpec := { name := "courseTail", fn := fun _ => fun
  | [d1, d2] => { results := [.lit (.bool false)], args := [d1, d2] }
  | _ => none }
def CourseTailWrongFalsely : Prop := courseTailRow.holds Try.pinned (OpenSpec.ofChange courseTailWrong)

/-- 'drydocklaw08.CourseFine': WHATEVER THE INPUT: true; the input reads as it did. -/
def courseFineSpec : ChangeSpec := { name := "courseFine", fn := fun _ => fun
  | [d] => { results := [.lit (.bool true)], args := [d] }
  | _ => none }
def courseFineRow : OpenClaim := { program := "ytpfnjbebfihkeaa", sum := "4ee56c3eadf98647eb68171a283f5841c70ba7ac394b90e733936c9482689396", func := "drydock/drydocklaw08.CourseFine", spec := "courseFine", unfollowed := true, recurses := true, apart := false }
def CourseFineSaid : Prop := courseFineRow.holds Try.pinned (OpenSpec.ofChange courseFineSpec)

/-- ITS FALSE NEIGHBOUR: 'it returns false'. Refute it at one input. -/
def courseFineWrong : ChangeSpec := { name := "courseFine", fn := fun _ => fun
  | [d] => { results := [.lit (.bool false)], args := [d] }
  | _ => none }
def CourseFineWrongFalsely : Prop := courseFineRow.holds Try.pinned (OpenSpec.ofChange courseFineWrong)

/- THE SECOND FORM. 'bulk': how many values and letters a reading holds, each counted each time it is reached (what is shared counts as often as it is met; a slice's spare places count too). A statement '..UptoSaid' is the law's where the arguments, and the package variables that the reading takes, are together of bulk at most 1048576: NARROWER than '..Said'. Prove '..Said' where nothing that the law and all that it calls make is longer than what came in: it says more and counts as full. Else prove '..UptoSaid'. A law counts once. -/
mutual
def uptoBulk {H : Type} : DataW H → Nat
  | .lit (.string bytes) => bytes.length + 1
  | .lit _ => 1
  | .nil => 1
  | .ptr d => uptoBulk d + 1
  | .slice elems spare => uptoBulkAll elems + uptoBulkAll spare + 1
  | .agg parts => uptoBulkAll parts + 1
  | .iface _ d => uptoBulk d + 1
  | .map entries => uptoBulkEntries entries + 1
  | .held _ => 1
def uptoBulkAll {H : Type} : List (DataW H) → Nat
  | [] => 0
  | d :: r => uptoBulk d + uptoBulkAll r
def uptoBulkEntries {H : Type} : List (Lit × DataW H) → Nat
  | [] => 0
  | x :: r => uptoBulkEntry x + uptoBulkEntries r
def uptoBulkEntry {H : Type} : Lit × DataW H → Nat
  | (.string bytes, d) => bytes.length + uptoBulk d + 1
  | (_, d) => uptoBulk d + 1
 end
def uptoSmall : (H : Type) → List (DataW H) → Bool := fun _ ds => decide (uptoBulkAll ds ≤ 1048576)
def OpenSpec.upto (s : _root_.Go.ChangeSpec) : _root_.Go.OpenSpec := { _root_.Go.OpenSpec.ofChange s with cond := some uptoSmall }

/-- 'drydocklaw08.CourseTells', WHERE WHAT IT READS IS OF BULK AT MOST 1048576: true; the input reads as it did. -/
def courseTellsUptoRow : OpenClaim := { program := "ytpfnjbebfihkeaa", sum := "4ee56c3eadf98647eb68171a283f5841c70ba7ac394b90e733936c9482689396", func := "drydock/drydocklaw08.CourseTells", spec := "courseTells", unfollowed := true, recurses := true, apart := false, narrowed := true }
def CourseTellsUptoSaid : Prop := courseTellsUptoRow.holds Try.pinned (OpenSpec.upto courseTellsSpec)

/-- 'drydocklaw08.CourseForward', WHERE WHAT IT READS IS OF BULK AT MOST 1048576: true; the input reads as it did. -/
def courseForwardUptoRow : OpenClaim := { program := "ytpfnjbebfihkeaa", sum := "4ee56c3eadf98647eb68171a283f5841c70ba7ac394b90e733936c9482689396", func := "drydock/drydocklaw08.CourseForward", spec := "courseForward", unfollowed := true, recurses := true, apart := false, narrowed := true }
def CourseForwardUptoSaid : Prop := courseForwardUptoRow.holds Try.pinned (OpenSpec.upto courseForwardSpec)

/-- 'drydocklaw08.CourseBudget', WHERE WHAT IT READS IS OF BULK AT MOST 1048576: true; the input reads as it did. -/
def courseBudgetUptoRow : OpenClaim := { program := "ytpfnjbebfihkeaa", sum := "4ee56c3eadf98647eb68171a283f5841c70ba7ac394b90e733936c9482689396", func := "drydock/drydocklaw08.CourseBudget", spec := "courseBudget", unfollowed := true, recurses := true, apart := false, narrowed := true }
def CourseBudgetUptoSaid : Prop := courseBudgetUptoRow.holds Try.pinned (OpenSpec.upto courseBudgetSpec)

/-- 'drydocklaw08.CourseCosts', WHERE WHAT IT READS IS OF BULK AT MOST 1048576: true; the input reads as it did. -/
def courseCostsUptoRow : OpenClaim := { program := "ytpfnjbebfihkeaa", sum := "4ee56c3eadf98647eb68171a283f5841c70ba7ac394b90e733936c9482689396", func := "drydock/drydocklaw08.CourseCosts", spec := "courseCosts", unfollowed := true, recurses := true, apart := false, narrowed := true }
def CourseCostsUptoSaid : Prop := courseCostsUptoRow.holds Try.pinned (OpenSpec.upto courseCostsSpec)

/-- 'drydocklaw08.CourseTail', WHERE WHAT IT READS IS OF BULK AT MOST 1048576: true; the input reads as it did. -/
def courseTailUptoRow : OpenClaim := { program := "ytpfnjbebfihkeaa", sum := "4ee56c3eadf98647eb68171a283f5841c70ba7ac394b90e733936c9482689396", func := "drydock/drydocklaw08.CourseTail", spec := "courseTail", unfollowed := true, recurses := true, apart := false, narrowed := true }
def CourseTailUptoSaid : Prop := courseTailUptoRow.holds Try.pinned (OpenSpec.upto courseTailSpec)

/-- 'drydocklaw08.CourseFine', WHERE WHAT IT READS IS OF BULK AT MOST 1048576: true; the input reads as it did. -/
def courseFineUptoRow : OpenClaim := { program := "ytpfnjbebfihkeaa", sum := "4ee56c3eadf98647eb68171a283f5841c70ba7ac394b90e733936c9482689396", func := "drydock/drydocklaw08.CourseFine", spec := "courseFine", unfollowed := true, recurses := true, apart := false, narrowed := true }
def CourseFineUptoSaid : Prop := courseFineUptoRow.holds Try.pinned (OpenSpec.upto courseFineSpec)

end Rows
end Go.Proofs.Ytpfnjbebfihkeaa
