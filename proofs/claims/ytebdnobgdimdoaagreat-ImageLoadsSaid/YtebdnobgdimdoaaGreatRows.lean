/-
  No cell of these rows narrows 'for every input' (looked for: loops, veiled, ifaces, maps, wideKeys, modest, calm, conditions, laid).
  DERIVED. THE GIVEN ROWS OF THIS SEAT. 5 by the template 'for every input the law returns true; each argument reads behind the call as it read before'; 0 by the template 'total and deterministic' (their statements: YtebdnobgdimdoaaGreatTotals.lean).
  GIVEN WITH THE SEED: the statements are not yours to turn. If you find one false, say at which input.
  Laid BY PROGRAM, IN A SANDBOX (cutbox-rows.mjs): the forced cells as the released guide's own fill.sh prints them over the translation e76013c274d90baa… (all of the seat's roots in one cut). By AI agents, Wed Nov 11 2026. No macro, syntax, notation, axiom, sorry.
-/
import Derived.Test.YtebdnobgdimdoaaGreatChecked
import GoSem.Claim
import GoSem.ClaimJoined
import GoSem.ClaimMapViews
import Derived.JoinedTies
import Derived.KernelRfl
namespace Go.Proofs.YtebdnobgdimdoaaGreat
/- THE CELL 'sum', in the pinned program and in every row, IS THE sha256 OF THE DUMP (.gsa) THAT YtebdnobgdimdoaaGreatProg.lean LOADS. Nothing in Lean hashes anything: it is a label: what it is worth is what the hold of that sum in a sandbox is worth. -/
noncomputable def Tryz.pinned : Pinned := { name := "ytebdnobgdimdoaagreat", sum := "e76013c274d90baaea75effbdc41bf53f2dcdeb21c1380cc498a024a8d7a8059", checked := Tryz.checked }
namespace Rows
def none {H : Type} : Left H := { results := [], args := [] }

/-- 'drydocklaw11.VerifySafe': WHATEVER THE INPUT: true; the input reads as it did. -/
def verifySafeSpec : ChangeSpec := { name := "verifySafe", fn := fun _ => fun
  | [d1, d2] => { results := [.lit (.bool true)], args := [d1, d2] }
  | _ => none }
def verifySafeRow : OpenClaim := { program := "ytebdnobgdimdoaagreat", sum := "e76013c274d90baaea75effbdc41bf53f2dcdeb21c1380cc498a024a8d7a8059", func := "drydock/drydocklaw11.VerifySafe", spec := "verifySafe", unfollowed := true, recurses := true, apart := false }
def VerifySafeSaid : Prop := verifySafeRow.holds Tryz.pinned (OpenSpec.ofChange verifySafeSpec)

/-- ITS FALSE NEIGHBOUR: 'it returns false'. Refute it at one input. -/
def verifySafeWrong : ChangeSpec := { name := "verifySafe", fn := fun _ => fun
  | [d1, d2] => { results := [.lit (.bool false)], args := [d1, d2] }
  | _ => none }
def VerifySafeWrongFalsely : Prop := verifySafeRow.holds Tryz.pinned (OpenSpec.ofChange verifySafeWrong)

/-- 'drydocklaw11.VerifyFresh': WHATEVER THE INPUT: true; the input reads as it did. -/
def verifyFreshSpec : ChangeSpec := { name := "verifyFresh", fn := fun _ => fun
  | [d1, d2, d3, d4] => { results := [.lit (.bool true)], args := [d1, d2, d3, d4] }
  | _ => none }
def verifyFreshRow : OpenClaim := { program := "ytebdnobgdimdoaagreat", sum := "e76013c274d90baaea75effbdc41bf53f2dcdeb21c1380cc498a024a8d7a8059", func := "drydock/drydocklaw11.VerifyFresh", spec := "verifyFresh", unfollowed := true, recurses := true, apart := false }
def VerifyFreshSaid : Prop := verifyFreshRow.holds Tryz.pinned (OpenSpec.ofChange verifyFreshSpec)

/-- ITS FALSE NEIGHBOUR: 'it returns false'. Refute it at one input. -/
def verifyFreshWrong : ChangeSpec := { name := "verifyFresh", fn := fun _ => fun
  | [d1, d2, d3, d4] => { results := [.lit (.bool false)], args := [d1, d2, d3, d4] }
  | _ => none }
def VerifyFreshWrongFalsely : Prop := verifyFreshRow.holds Tryz.pinned (OpenSpec.ofChange verifyFreshWrong)

/-- 'drydocklaw11.VerifyHolds': WHATEVER THE INPUT: true; the input reads as it did. -/
def verifyHoldsSpec : ChangeSpec := { name := "verifyHolds", fn := fun _ => fun
  | [d1, d2] => { results := [.lit (.bool true)], args := [d1, d2] }
  | _ => none }
def verifyHoldsRow : OpenClaim := { program := "ytebdnobgdimdoaagreat", sum := "e76013c274d90baaea75effbdc41bf53f2dcdeb21c1380cc498a024a8d7a8059", func := "drydock/drydocklaw11.VerifyHolds", spec := "verifyHolds", unfollowed := true, recurses := true, apart := false }
def VerifyHoldsSaid : Prop := verifyHoldsRow.holds Tryz.pinned (OpenSpec.ofChange verifyHoldsSpec)

/-- ITS FALSE NEIGHBOUR: 'it returns false'. Refute it at one input. -/
def verifyHoldsWrong : ChangeSpec := { name := "verifyHolds", fn := fun _ => fun
  | [d1, d2] => { results := [.lit (.bool false)], args := [d1, d2] }
  | _ => none }
def VerifyHoldsWrongFalsely : Prop := verifyHoldsRow.holds Tryz.pinned (OpenSpec.ofChange verifyHoldsWrong)

/-- 'drydocklaw14.ImageSize': WHATEVER THE INPUT: true; the input reads as it did. -/
def imageSizeSpec : ChangeSpec := { name := "imageSize", fn := fun _ => fun
  | [d1, d2, d3] => { results := [.lit (.bool true)], args := [d1, d2, d3] }
  | _ => none }
def imageSizeRow : OpenClaim := { program := "ytebdnobgdimdoaagreat", sum := "e76013c274d90baaea75effbdc41bf53f2dcdeb21c1380cc498a024a8d7a8059", func := "drydock/drydocklaw14.ImageSize", spec := "imageSize", unfollowed := true, recurses := true, apart := false }
def ImageSizeSaid : Prop := imageSizeRow.holds Tryz.pinned (OpenSpec.ofChange imageSizeSpec)

/-- ITS FALSE NEIGHBOUR: 'it returns false'. Refute it at one input. -/
def imageSizeWrong : ChangeSpec := { name := "imageSize", fn := fun _ => fun
  | [d1, d2, d3] => { results := [.lit (.bool false)], args := [d1, d2, d3] }
  | _ => none }
def ImageSizeWrongFalsely : Prop := imageSizeRow.holds Tryz.pinned (OpenSpec.ofChange imageSizeWrong)

/-- 'drydocklaw14.ImageLoads': WHATEVER THE INPUT: true; the input reads as it did. -/
def imageLoadsSpec : ChangeSpec := { name := "imageLoads", fn := fun _ => fun
  | [d1, d2, d3, d4] => { results := [.lit (.bool true)], args := [d1, d2, d3, d4] }
  | _ => none }
def imageLoadsRow : OpenClaim := { program := "ytebdnobgdimdoaagreat", sum := "e76013c274d90baaea75effbdc41bf53f2dcdeb21c1380cc498a024a8d7a8059", func := "drydock/drydocklaw14.ImageLoads", spec := "imageLoads", unfollowed := true, recurses := true, apart := false }
def ImageLoadsSaid : Prop := imageLoadsRow.holds Tryz.pinned (OpenSpec.ofChange imageLoadsSpec)

/-- ITS FALSE NEIGHBOUR: 'it returns false'. Refute it at one input. -/
def imageLoadsWrong : ChangeSpec := { name := "imageLoads", fn := fun _ => fun
  | [d1, d2, d3, d4] => { results := [.lit (.bool false)], args := [d1, d2, d3, d4] }
  | _ => none }
def ImageLoadsWrongFalsely : Prop := imageLoadsRow.holds Tryz.pinned (OpenSpec.ofChange imageLoadsWrong)

/- THE SECOND FORM. 'bulk': how many values and letters a reading holds, each counted each time it is reached (what is shared counts as often as it is met; a slice's spare places count too). A statement '..UptoSaid' is the law's where the arguments, and the package variables that the reading takes, are together of bulk at most 1048576: NARROWER than '..Said'. Prove '..Said' where nothing that the law and all that it calls make is longer than what came in: it says more and counts as full. Else prove '..UptoSaid'. A law counts once. -/
mutual
def uptoBulk {H : Type} : DataW H → Nat
  | .lit (.string bytes) => bytes.length + 1
  | .lit _ => 1
  | .nil => 1
  | .ptr d => uptoBulk d + 1
  | .slice elems spare => uptoBulkAll elems + uptoBulkAll spare + 1
  | .agg parts => uptoBulkAll parts + 1
  | .iface _ d => uptoBulk d + 1
  | .map entries => uptoBulkEntries entries + 1
  | .held _ => 1
def uptoBulkAll {H : Type} : List (DataW H) → Nat
  | [] => 0
  | d :: r => uptoBulk d + uptoBulkAll r
def uptoBulkEntries {H : Type} : List (Lit × DataW H) → Nat
  | [] => 0
  | x :: r => uptoBulkEntry x + uptoBulkEntries r
def uptoBulkEntry {H : Type} : Lit × DataW H → Nat
  | (.string bytes, d) => bytes.length + uptoBulk d + 1
  | (_, d) => uptoBulk d + 1
 end
def uptoSmall : (H : Type) → List (DataW H) → Bool := fun _ ds => decide (uptoBulkAll ds ≤ 1048576)
def OpenSpec.upto (s : _root_.Go.ChangeSpec) : _root_.Go.OpenSpec := { _root_.Go.OpenSpec.ofChange s with cond := some uptoSmall }

/-- 'drydocklaw11.VerifySafe', WHERE WHAT IT READS IS OF BULK AT MOST 1048576: true; the input reads as it did. -/
def verifySafeUptoRow : OpenClaim := { program := "ytebdnobgdimdoaagreat", sum := "e76013c274d90baaea75effbdc41bf53f2dcdeb21c1380cc498a024a8d7a8059", func := "drydock/drydocklaw11.VerifySafe", spec := "verifySafe", unfollowed := true, recurses := true, apart := false, narrowed := true }
def VerifySafeUptoSaid : Prop := verifySafeUptoRow.holds Tryz.pinned (OpenSpec.upto verifySafeSpec)

/-- 'drydocklaw11.VerifyFresh', WHERE WHAT IT READS IS OF BULK AT MOST 1048576: true; the input reads as it did. -/
def verifyFreshUptoRow : OpenClaim := { program := "ytebdnobgdimdoaagreat", sum := "e76013c274d90baaea75effbdc41bf53f2dcdeb21c1380cc498a024a8d7a8059", func := "drydock/drydocklaw11.VerifyFresh", spec := "verifyFresh", unfollowed := true, recurses := true, apart := false, narrowed := true }
def VerifyFreshUptoSaid : Prop := verifyFreshUptoRow.holds Tryz.pinned (OpenSpec.upto verifyFreshSpec)

/-- 'drydocklaw11.VerifyHolds', WHERE WHAT IT READS IS OF BULK AT MOST 1048576: true; the input reads as it did. -/
def verifyHoldsUptoRow : OpenClaim := { program := "ytebdnobgdimdoaagreat", sum := "e76013c274d90baaea75effbdc41bf53f2dcdeb21c1380cc498a024a8d7a8059", func := "drydock/drydocklaw11.VerifyHolds", spec := "verifyHolds", unfollowed := true, recurses := true, apart := false, narrowed := true }
def VerifyHoldsUptoSaid : Prop := verifyHoldsUptoRow.holds Tryz.pinned (OpenSpec.upto verifyHoldsSpec)

/-- 'drydocklaw14.ImageSize', WHERE WHAT IT READS IS OF BULK AT MOST 1048576: true; the input reads as it did. -/
def imageSizeUptoRow : OpenClaim := { program := "ytebdnobgdimdoaagreat", sum := "e76013c274d90baaea75effbdc41bf53f2dcdeb21c1380cc498a024a8d7a8059", func := "drydock/drydocklaw14.ImageSize", spec := "imageSize", unfollowed := true, recurses := true, apart := false, narrowed := true }
def ImageSizeUptoSaid : Prop := imageSizeUptoRow.holds Tryz.pinned (OpenSpec.upto imageSizeSpec)

/-- 'drydocklaw14.ImageLoads', WHERE WHAT IT READS IS OF BULK AT MOST 1048576: true; the input reads as it did. -/
def imageLoadsUptoRow : OpenClaim := { program := "ytebdnobgdimdoaagreat", sum := "e76013c274d90baaea75effbdc41bf53f2dcdeb21c1380cc498a024a8d7a8059", func := "drydock/drydocklaw14.ImageLoads", spec := "imageLoads", unfollowed := true, recurses := true, apart := false, narrowed := true }
def ImageLoadsUptoSaid : Prop := imageLoadsUptoRow.holds Tryz.pinned (OpenSpec.upto imageLoadsSpec)

end Rows
end Go.Proofs.YtebdnobgdimdoaaGreat
