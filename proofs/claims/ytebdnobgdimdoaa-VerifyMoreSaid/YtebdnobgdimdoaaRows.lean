/-
  No cell of these rows narrows 'for every input' (looked for: loops, veiled, ifaces, maps, wideKeys, modest, calm, conditions, laid).
  DERIVED. THE GIVEN ROWS OF THIS SEAT. 3 by the template 'for every input the law returns true; each argument reads behind the call as it read before'; 0 by the template 'total and deterministic' (their statements: YtebdnobgdimdoaaTotals.lean).
  GIVEN WITH THE SEED: the statements are not yours to turn. If you find one false, say at which input.
  Laid BY PROGRAM, IN A SANDBOX (cutbox-rows.mjs): the forced cells as the released guide's own fill.sh prints them over the translation 636be7be811b4f1f… (all of the seat's roots in one cut). By AI agents, Wed Nov 11 2026. No macro, syntax, notation, axiom, sorry.
-/
import Derived.Test.YtebdnobgdimdoaaChecked
import GoSem.Claim
import GoSem.ClaimJoined
import GoSem.ClaimMapViews
import Derived.JoinedTies
import Derived.KernelRfl
namespace Go.Proofs.Ytebdnobgdimdoaa
/- THE CELL 'sum', in the pinned program and in every row, IS THE sha256 OF THE DUMP (.gsa) THAT YtebdnobgdimdoaaProg.lean LOADS. Nothing in Lean hashes anything: it is a label: what it is worth is what the hold of that sum in a sandbox is worth. -/
noncomputable def Try.pinned : Pinned := { name := "ytebdnobgdimdoaa", sum := "636be7be811b4f1f321e18728039d9bd34a0ca06eb785b45501d4ac46f6a7791", checked := Try.checked }
namespace Rows
def none {H : Type} : Left H := { results := [], args := [] }

/-- 'drydocklaw11.VerifyRead': WHATEVER THE INPUT: true; the input reads as it did. -/
def verifyReadSpec : ChangeSpec := { name := "verifyRead", fn := fun _ => fun
  | [d1, d2, d3] => { results := [.lit (.bool true)], args := [d1, d2, d3] }
  | _ => none }
def verifyReadRow : OpenClaim := { program := "ytebdnobgdimdoaa", sum := "636be7be811b4f1f321e18728039d9bd34a0ca06eb785b45501d4ac46f6a7791", func := "drydock/drydocklaw11.VerifyRead", spec := "verifyRead", unfollowed := true, recurses := true, apart := false }
def VerifyReadSaid : Prop := verifyReadRow.holds Try.pinned (OpenSpec.ofChange verifyReadSpec)

/-- ITS FALSE NEIGHBOUR: 'it returns false'. Refute it at one input. -/
def verifyReadWrong : ChangeSpec := { name := "verifyRead", fn := fun _ => fun
  | [d1, d2, d3] => { results := [.lit (.bool false)], args := [d1, d2, d3] }
  | _ => none }
def VerifyReadWrongFalsely : Prop := verifyReadRow.holds Try.pinned (OpenSpec.ofChange verifyReadWrong)

/-- 'drydocklaw11.VerifyMore': WHATEVER THE INPUT: true; the input reads as it did. -/
def verifyMoreSpec : ChangeSpec := { name := "verifyMore", fn := fun _ => fun
  | [d1, d2, d3] => { results := [.lit (.bool true)], args := [d1, d2, d3] }
  | _ => none }
def verifyMoreRow : OpenClaim := { program := "ytebdnobgdimdoaa", sum := "636be7be811b4f1f321e18728039d9bd34a0ca06eb785b45501d4ac46f6a7791", func := "drydock/drydocklaw11.VerifyMore", spec := "verifyMore", unfollowed := true, recurses := true, apart := false }
def VerifyMoreSaid : Prop := verifyMoreRow.holds Try.pinned (OpenSpec.ofChange verifyMoreSpec)

/-- ITS FALSE NEIGHBOUR: 'it returns false'. Refute it at one input. -/
def verifyMoreWrong : ChangeSpec := { name := "verifyMore", fn := fun _ => fun
  | [d1, d2, d3] => { results := [.lit (.bool false)], args := [d1, d2, d3] }
  | _ => none }
def VerifyMoreWrongFalsely : Prop := verifyMoreRow.holds Try.pinned (OpenSpec.ofChange verifyMoreWrong)

/-- 'drydocklaw08.CourseBudget': WHATEVER THE INPUT: true; the input reads as it did. -/
def courseBudgetSpec : ChangeSpec := { name := "courseBudget", fn := fun _ => fun
  | [d1, d2] => { results := [.lit (.bool true)], args := [d1, d2] }
  | _ => none }
def courseBudgetRow : OpenClaim := { program := "ytebdnobgdimdoaa", sum := "636be7be811b4f1f321e18728039d9bd34a0ca06eb785b45501d4ac46f6a7791", func := "drydock/drydocklaw08.CourseBudget", spec := "courseBudget", unfollowed := true, recurses := true, apart := false }
def CourseBudgetSaid : Prop := courseBudgetRow.holds Try.pinned (OpenSpec.ofChange courseBudgetSpec)

/-- ITS FALSE NEIGHBOUR: 'it returns false'. Refute it at one input. -/
def courseBudgetWrong : ChangeSpec := { name := "courseBudget", fn := fun _ => fun
  | [d1, d2] => { results := [.lit (.bool false)], args := [d1, d2] }
  | _ => none }
def CourseBudgetWrongFalsely : Prop := courseBudgetRow.holds Try.pinned (OpenSpec.ofChange courseBudgetWrong)

/- THE SECOND FORM. 'bulk': how many values and letters a reading holds, each counted each time it is reached (what is shared counts as often as it is met; a slice's spare places count too). A statement '..UptoSaid' is the law's where the arguments, and the package variables that the reading takes, are together of bulk at most 1048576: NARROWER than '..Said'. Prove '..Said' where nothing that the law and all that it calls make is longer than what came in: it says more and counts as full. Else prove '..UptoSaid'. A law counts once. -/
mutual
def uptoBulk {H : Type} : DataW H → Nat
  | .lit (.string bytes) => bytes.length + 1
  | .lit _ => 1
  | .nil => 1
  | .ptr d => uptoBulk d + 1
  | .slice elems spare => uptoBulkAll elems + uptoBulkAll spare + 1
  | .agg parts => uptoBulkAll parts + 1
  | .iface _ d => uptoBulk d + 1
  | .map entries => uptoBulkEntries entries + 1
  | .held _ => 1
def uptoBulkAll {H : Type} : List (DataW H) → Nat
  | [] => 0
  | d :: r => uptoBulk d + uptoBulkAll r
def uptoBulkEntries {H : Type} : List (Lit × DataW H) → Nat
  | [] => 0
  | x :: r => uptoBulkEntry x + uptoBulkEntries r
def uptoBulkEntry {H : Type} : Lit × DataW H → Nat
  | (.string bytes, d) => bytes.length + uptoBulk d + 1
  | (_, d) => uptoBulk d + 1
 end
def uptoSmall : (H : Type) → List (DataW H) → Bool := fun _ ds => decide (uptoBulkAll ds ≤ 1048576)
def OpenSpec.upto (s : _root_.Go.ChangeSpec) : _root_.Go.OpenSpec := { _root_.Go.OpenSpec.ofChange s with cond := some uptoSmall }

/-- 'drydocklaw11.VerifyRead', WHERE WHAT IT READS IS OF BULK AT MOST 1048576: true; the input reads as it did. -/
def verifyReadUptoRow : OpenClaim := { program := "ytebdnobgdimdoaa", sum := "636be7be811b4f1f321e18728039d9bd34a0ca06eb785b45501d4ac46f6a7791", func := "drydock/drydocklaw11.VerifyRead", spec := "verifyRead", unfollowed := true, recurses := true, apart := false, narrowed := true }
def VerifyReadUptoSaid : Prop := verifyReadUptoRow.holds Try.pinned (OpenSpec.upto verifyReadSpec)

/-- 'drydocklaw11.VerifyMore', WHERE WHAT IT READS IS OF BULK AT MOST 1048576: true; the input reads as it did. -/
def verifyMoreUptoRow : OpenClaim := { program := "ytebdnobgdimdoaa", sum := "636be7be811b4f1f321e18728039d9bd34a0ca06eb785b45501d4ac46f6a7791", func := "drydock/drydocklaw11.VerifyMore", spec := "verifyMore", unfollowed := true, recurses := true, apart := false, narrowed := true }
def VerifyMoreUptoSaid : Prop := verifyMoreUptoRow.holds Try.pinned (OpenSpec.upto verifyMoreSpec)

/-- 'drydocklaw08.CourseBudget', WHERE WHAT IT READS IS OF BULK AT MOST 1048576: true; the input reads as it did. -/
def courseBudgetUptoRow : OpenClaim := { program := "ytebdnobgdimdoaa", sum := "636be7be811b4f1f321e18728039d9bd34a0ca06eb785b45501d4ac46f6a7791", func := "drydock/drydocklaw08.CourseBudget", spec := "courseBudget", unfollowed := true, recurses := true, apart := false, narrowed := true }
def CourseBudgetUptoSaid : Prop := courseBudgetUptoRow.holds Try.pinned (OpenSpec.upto courseBudgetSpec)

end Rows
end Go.Proofs.Ytebdnobgdimdoaa
