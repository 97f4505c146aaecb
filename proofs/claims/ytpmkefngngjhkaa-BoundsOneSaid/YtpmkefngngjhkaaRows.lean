/-
  No cell of these rows narrows 'for every input' (looked for: loops, veiled, ifaces, maps, wideKeys, modest, calm, conditions, laid).
  DERIVED. THE GIVEN ROWS OF THIS SEAT. 5 by the template 'for every input the law returns true; each argument reads behind the call as it read before'; 0 by the template 'total and deterministic' (their statements: YtpmkefngngjhkaaTotals.lean).
  GIVEN WITH THE SEED: the statements are not yours to turn. If you find one false, say at which input.
  Laid BY PROGRAM, IN A SANDBOX (cutbox-rows.mjs): the forced cells as the released guide's own fill.sh prints them over the translation 1abfd4184607db47… (all of the seat's roots in one cut). By AI agents, Wed Nov 11 2026. No macro, syntax, notation, axiom, sorry.
-/
import Derived.Test.YtpmkefngngjhkaaChecked
import GoSem.Claim
import GoSem.ClaimJoined
import GoSem.ClaimMapViews
import Derived.JoinedTies
import Derived.KernelRfl
namespace Go.Proofs.Ytpmkefngngjhkaa
/- THE CELL 'sum', in the pinned program and in every row, IS THE sha256 OF THE DUMP (.gsa) THAT YtpmkefngngjhkaaProg.lean LOADS. Nothing in Lean hashes anything: it is a label: what it is worth is what the hold of that sum in a sandbox is worth. -/
noncomputable def Try.pinned : Pinned := { name := "ytpmkefngngjhkaa", sum := "1abfd4184607db4774c36da105de2355fd46be023fefbabbc44c984960f05f73", checked := Try.checked }
namespace Rows
def none {H : Type} : Left H := { results := [], args := [] }

/-- 'drydocklaw09.BoundsJoin': WHATEVER THE INPUT: true; the input reads as it did. -/
def boundsJoinSpec : ChangeSpec := { name := "boundsJoin", fn := fun _ => fun
  | [d1, d2, d3, d4, d5] => { results := [.lit (.bool true)], args := [d1, d2, d3, d4, d5] }
  | _ => none }
def boundsJoinRow : OpenClaim := { program := "ytpmkefngngjhkaa", sum := "1abfd4184607db4774c36da105de2355fd46be023fefbabbc44c984960f05f73", func := "drydock/drydocklaw09.BoundsJoin", spec := "boundsJoin", unfollowed := true, recurses := true, apart := false }
def BoundsJoinSaid : Prop := boundsJoinRow.holds Try.pinned (OpenSpec.ofChange boundsJoinSpec)

/-- ITS FALSE NEIGHBOUR: 'it returns false'. Refute it at one input. -/
def boundsJoinWrong : ChangeSpec := { name := "boundsJoin", fn := fun _ => fun
  | [d1, d2, d3, d4, d5] => { results := [.lit (.bool false)], args := [d1, d2, d3, d4, d5] }
  | _ => none }
def BoundsJoinWrongFalsely : Prop := boundsJoinRow.holds Try.pinned (OpenSpec.ofChange boundsJoinWrong)

/-- 'drydocklaw09.BoundsWide': WHATEVER THE INPUT: true; the input reads as it did. -/
def boundsWideSpec : ChangeSpec := { name := "boundsWide", fn := fun _ => fun
  | [d1, d2, d3, d4, d5, d6, d7] => { results := [.lit (.bool true)], args := [d1, d2, d3, d4, d5, d6, d7] }
  | _ => none }
def boundsWideRow : OpenClaim := { program := "ytpmkefngngjhkaa", sum := "1abfd4184607db4774c36da105de2355fd46be023fefbabbc44c984960f05f73", func := "drydock/drydocklaw09.BoundsWide", spec := "boundsWide", unfollowed := true, recurses := true, apart := false }
def BoundsWideSaid : Prop := boundsWideRow.holds Try.pinned (OpenSpec.ofChange boundsWideSpec)

/-- ITS FALSE NEIGHBOUR: 'it returns false'. Refute it at one input. -/
def boundsWideWrong : ChangeSpec := { name := "boundsWide", fn := fun _ => fun
  | [d1, d2, d3, d4, d5, d6, d7] => { results := [.lit (.bool false)], args := [d1, d2, d3, d4, d5, d6, d7] }
  | _ => none }
def BoundsWideWrongFalsely : Prop := boundsWideRow.holds Try.pinned (OpenSpec.ofChange boundsWideWrong)

/-- 'drydocklaw09.BoundsCut': WHATEVER THE INPUT: true; the input reads as it did. -/
def boundsCutSpec : ChangeSpec := { name := "boundsCut", fn := fun _ => fun
  | [d1, d2, d3, d4, d5, d6, d7] => { results := [.lit (.bool true)], args := [d1, d2, d3, d4, d5, d6, d7] }
  | _ => none }
def boundsCutRow : OpenClaim := { program := "ytpmkefngngjhkaa", sum := "1abfd4184607db4774c36da105de2355fd46be023fefbabbc44c984960f05f73", func := "drydock/drydocklaw09.BoundsCut", spec := "boundsCut", unfollowed := true, recurses := true, apart := false }
def BoundsCutSaid : Prop := boundsCutRow.holds Try.pinned (OpenSpec.ofChange boundsCutSpec)

/-- ITS FALSE NEIGHBOUR: 'it returns false'. Refute it at one input. -/
def boundsCutWrong : ChangeSpec := { name := "boundsCut", fn := fun _ => fun
  | [d1, d2, d3, d4, d5, d6, d7] => { results := [.lit (.bool false)], args := [d1, d2, d3, d4, d5, d6, d7] }
  | _ => none }
def BoundsCutWrongFalsely : Prop := boundsCutRow.holds Try.pinned (OpenSpec.ofChange boundsCutWrong)

/-- 'drydocklaw09.BoundsHold': WHATEVER THE INPUT: true; the input reads as it did. -/
def boundsHoldSpec : ChangeSpec := { name := "boundsHold", fn := fun _ => fun
  | [d1, d2, d3, d4, d5, d6, d7] => { results := [.lit (.bool true)], args := [d1, d2, d3, d4, d5, d6, d7] }
  | _ => none }
def boundsHoldRow : OpenClaim := { program := "ytpmkefngngjhkaa", sum := "1abfd4184607db4774c36da105de2355fd46be023fefbabbc44c984960f05f73", func := "drydock/drydocklaw09.BoundsHold", spec := "boundsHold", unfollowed := true, recurses := true, apart := false }
def BoundsHoldSaid : Prop := boundsHoldRow.holds Try.pinned (OpenSpec.ofChange boundsHoldSpec)

/-- ITS FALSE NEIGHBOUR: 'it returns false'. Refute it at one input. -/
def boundsHoldWrong : ChangeSpec := { name := "boundsHold", fn := fun _ => fun
  | [d1, d2, d3, d4, d5, d6, d7] => { results := [.lit (.bool false)], args := [d1, d2, d3, d4, d5, d6, d7] }
  | _ => none }
def BoundsHoldWrongFalsely : Prop := boundsHoldRow.holds Try.pinned (OpenSpec.ofChange boundsHoldWrong)

/-- 'drydocklaw09.BoundsOne': WHATEVER THE INPUT: true; the input reads as it did. -/
def boundsOneSpec : ChangeSpec := { name := "boundsOne", fn := fun _ => fun
  | [d1, d2, d3] => { results := [.lit (.bool true)], args := [d1, d2, d3] }
  | _ => none }
def boundsOneRow : OpenClaim := { program := "ytpmkefngngjhkaa", sum := "1abfd4184607db4774c36da105de2355fd46be023fefbabbc44c984960f05f73", func := "drydock/drydocklaw09.BoundsOne", spec := "boundsOne", unfollowed := true, recurses := true, apart := false }
def BoundsOneSaid : Prop := boundsOneRow.holds Try.pinned (OpenSpec.ofChange boundsOneSpec)

/-- ITS FALSE NEIGHBOUR: 'it returns false'. Refute it at one input. -/
def boundsOneWrong : ChangeSpec := { name := "boundsOne", fn := fun _ => fun
  | [d1, d2, d3] => { results := [.lit (.bool false)], args := [d1, d2, d3] }
  | _ => none }
def BoundsOneWrongFalsely : Prop := boundsOneRow.holds Try.pinned (OpenSpec.ofChange boundsOneWrong)

/- THE SECOND FORM. 'bulk': how many values and letters a reading holds, each counted each time it is reached (what is shared counts as often as it is met; a slice's spare places count too). A statement '..UptoSaid' is the law's where the arguments, and the package variables that the reading takes, are together of bulk at most 1048576: NARROWER than '..Said'. Prove '..Said' where nothing that the law and all that it calls make is longer than what came in: it says more and counts as full. Else prove '..UptoSaid'. A law counts once. -/
mutual
def uptoBulk {H : Type} : DataW H → Nat
  | .lit (.string bytes) => bytes.length + 1
  | .lit _ => 1
  | .nil => 1
  | .ptr d => uptoBulk d + 1
  | .slice elems spare => uptoBulkAll elems + uptoBulkAll spare + 1
  | .agg parts => uptoBulkAll parts + 1
  | .iface _ d => uptoBulk d + 1
  | .map entries => uptoBulkEntries entries + 1
  | .held _ => 1
def uptoBulkAll {H : Type} : List (DataW H) → Nat
  | [] => 0
  | d :: r => uptoBulk d + uptoBulkAll r
def uptoBulkEntries {H : Type} : List (Lit × DataW H) → Nat
  | [] => 0
  | x :: r => uptoBulkEntry x + uptoBulkEntries r
def uptoBulkEntry {H : Type} : Lit × DataW H → Nat
  | (.string bytes, d) => bytes.length + uptoBulk d + 1
  | (_, d) => uptoBulk d + 1
 end
def uptoSmall : (H : Type) → List (DataW H) → Bool := fun _ ds => decide (uptoBulkAll ds ≤ 1048576)
def OpenSpec.upto (s : _root_.Go.ChangeSpec) : _root_.Go.OpenSpec := { _root_.Go.OpenSpec.ofChange s with cond := some uptoSmall }

/-- 'drydocklaw09.BoundsJoin', WHERE WHAT IT READS IS OF BULK AT MOST 1048576: true; the input reads as it did. -/
def boundsJoinUptoRow : OpenClaim := { program := "ytpmkefngngjhkaa", sum := "1abfd4184607db4774c36da105de2355fd46be023fefbabbc44c984960f05f73", func := "drydock/drydocklaw09.BoundsJoin", spec := "boundsJoin", unfollowed := true, recurses := true, apart := false, narrowed := true }
def BoundsJoinUptoSaid : Prop := boundsJoinUptoRow.holds Try.pinned (OpenSpec.upto boundsJoinSpec)

/-- 'drydocklaw09.BoundsWide', WHERE WHAT IT READS IS OF BULK AT MOST 1048576: true; the input reads as it did. -/
def boundsWideUptoRow : OpenClaim := { program := "ytpmkefngngjhkaa", sum := "1abfd4184607db4774c36da105de2355fd46be023fefbabbc44c984960f05f73", func := "drydock/drydocklaw09.BoundsWide", spec := "boundsWide", unfollowed := true, recurses := true, apart := false, narrowed := true }
def BoundsWideUptoSaid : Prop := boundsWideUptoRow.holds Try.pinned (OpenSpec.upto boundsWideSpec)

/-- 'drydocklaw09.BoundsCut', WHERE WHAT IT READS IS OF BULK AT MOST 1048576: true; the input reads as it did. -/
def boundsCutUptoRow : OpenClaim := { program := "ytpmkefngngjhkaa", sum := "1abfd4184607db4774c36da105de2355fd46be023fefbabbc44c984960f05f73", func := "drydock/drydocklaw09.BoundsCut", spec := "boundsCut", unfollowed := true, recurses := true, apart := false, narrowed := true }
def BoundsCutUptoSaid : Prop := boundsCutUptoRow.holds Try.pinned (OpenSpec.upto boundsCutSpec)

/-- 'drydocklaw09.BoundsHold', WHERE WHAT IT READS IS OF BULK AT MOST 1048576: true; the input reads as it did. -/
def boundsHoldUptoRow : OpenClaim := { program := "ytpmkefngngjhkaa", sum := "1abfd4184607db4774c36da105de2355fd46be023fefbabbc44c984960f05f73", func := "drydock/drydocklaw09.BoundsHold", spec := "boundsHold", unfollowed := true, recurses := true, apart := false, narrowed := true }
def BoundsHoldUptoSaid : Prop := boundsHoldUptoRow.holds Try.pinned (OpenSpec.upto boundsHoldSpec)

/-- 'drydocklaw09.BoundsOne', WHERE WHAT IT READS IS OF BULK AT MOST 1048576: true; the input reads as it did. -/
def boundsOneUptoRow : OpenClaim := { program := "ytpmkefngngjhkaa", sum := "1abfd4184607db4774c36da105de2355fd46be023fefbabbc44c984960f05f73", func := "drydock/drydocklaw09.BoundsOne", spec := "boundsOne", unfollowed := true, recurses := true, apart := false, narrowed := true }
def BoundsOneUptoSaid : Prop := boundsOneUptoRow.holds Try.pinned (OpenSpec.upto boundsOneSpec)

end Rows
end Go.Proofs.Ytpmkefngngjhkaa
