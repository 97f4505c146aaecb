/-
  No cell of these rows narrows 'for every input' (looked for: loops, veiled, ifaces, maps, wideKeys, modest, calm, conditions, laid).
  DERIVED. THE GIVEN ROWS OF THIS SEAT. 6 by the template 'for every input the law returns true; each argument reads behind the call as it read before'; 0 by the template 'total and deterministic' (their statements: YtcllifcafgiopaaTotals.lean).
  GIVEN WITH THE SEED: the statements are not yours to turn. If you find one false, say at which input.
  Laid BY PROGRAM, IN A SANDBOX (cutbox-rows.mjs): the forced cells as the released guide's own fill.sh prints them over the translation e9c7c4cb76744920… (all of the seat's roots in one cut). By AI agents, Wed Nov 11 2026. No macro, syntax, notation, axiom, sorry.
-/
import Derived.Test.YtcllifcafgiopaaChecked
import GoSem.Claim
import GoSem.ClaimJoined
import GoSem.ClaimMapViews
import Derived.JoinedTies
import Derived.KernelRfl
namespace Go.Proofs.Ytcllifcafgiopaa
/- THE CELL 'sum', in the pinned program and in every row, IS THE sha256 OF THE DUMP (.gsa) THAT YtcllifcafgiopaaProg.lean LOADS. Nothing in Lean hashes anything: it is a label: what it is worth is what the hold of that sum in a sandbox is worth. -/
noncomputable def Try.pinned : Pinned := { name := "ytcllifcafgiopaa", sum := "e9c7c4cb767449201a75da617b768db679cd1f8f67e8693da7d220a052bef74b", checked := Try.checked }
namespace Rows
def none {H : Type} : Left H := { results := [], args := [] }

/-- 'drydocklaw03.ProgBack': WHATEVER THE INPUT: true; the input reads as it did. -/
def progBackSpec : ChangeSpec := { name := "progBack", fn := fun _ => fun
  | [d1, d2] => { results := [.lit (.bool true)], args := [d1, d2] }
  | _ => none }
def progBackRow : OpenClaim := { program := "ytcllifcafgiopaa", sum := "e9c7c4cb767449201a75da617b768db679cd1f8f67e8693da7d220a052bef74b", func := "drydock/drydocklaw03.ProgBack", spec := "progBack", unfollowed := true, recurses := true, apart := false }
def ProgBackSaid : Prop := progBackRow.holds Try.pinned (OpenSpec.ofChange progBackSpec)

/-- ITS FALSE NEIGHBOUR: 'it returns false'. Refute it at one input. -/
def progBackWrong : ChangeSpec := { name := "progBack", fn := fun _ => fun
  | [d1, d2] => { results := [.lit (.bool false)], args := [d1, d2] }
  | _ => none }
def ProgBackWrongFalsely : Prop := progBackRow.holds Try.pinned (OpenSpec.ofChange progBackWrong)

/-- 'drydocklaw03.ProgLong': WHATEVER THE INPUT: true; the input reads as it did. -/
def progLongSpec : ChangeSpec := { name := "progLong", fn := fun _ => fun
  | [d] => { results := [.lit (.bool true)], args := [d] }
  | _ => none }
def progLongRow : OpenClaim := { program := "ytcllifcafgiopaa", sum := "e9c7c4cb767449201a75da617b768db679cd1f8f67e8693da7d220a052bef74b", func := "drydock/drydocklaw03.ProgLong", spec := "progLong", unfollowed := true, recurses := true, apart := false }
def ProgLongSaid : Prop := progLongRow.holds Try.pinned (OpenSpec.ofChange progLongSpec)

/-- ITS FALSE NEIGHBOUR: 'it returns false'. Refute it at one input. -/
def progLongWrong : ChangeSpec := { name := "progLong", fn := fun _ => fun
  | [d] => { results := [.lit (.bool false)], args := [d] }
  | _ => none }
def ProgLongWrongFalsely : Prop := progLongRow.holds Try.pinned (OpenSpec.ofChange progLongWrong)

/-- 'drydocklaw03.ProgParts': WHATEVER THE INPUT: true; the input reads as it did. -/
def progPartsSpec : ChangeSpec := { name := "progParts", fn := fun _ => fun
  | [d1, d2] => { results := [.lit (.bool true)], args := [d1, d2] }
  | _ => none }
def progPartsRow : OpenClaim := { program := "ytcllifcafgiopaa", sum := "e9c7c4cb767449201a75da617b768db679cd1f8f67e8693da7d220a052bef74b", func := "drydock/drydocklaw03.ProgParts", spec := "progParts", unfollowed := true, recurses := true, apart := false }
def ProgPartsSaid : Prop := progPartsRow.holds Try.pinned (OpenSpec.ofChange progPartsSpec)

/-- ITS FALSE NEIGHBOUR: 'it returns false'. Refute it at one input. -/
def progPartsWrong : ChangeSpec := { name := "progParts", fn := fun _ => fun
  | [d1, d2] => { results := [.lit (.bool false)], args := [d1, d2] }
  | _ => none }
def ProgPartsWrongFalsely : Prop := progPartsRow.holds Try.pinned (OpenSpec.ofChange progPartsWrong)

/-- 'drydocklaw03.ProgSame': WHATEVER THE INPUT: true; the input reads as it did. -/
def progSameSpec : ChangeSpec := { name := "progSame", fn := fun _ => fun
  | [d1, d2, d3, d4] => { results := [.lit (.bool true)], args := [d1, d2, d3, d4] }
  | _ => none }
def progSameRow : OpenClaim := { program := "ytcllifcafgiopaa", sum := "e9c7c4cb767449201a75da617b768db679cd1f8f67e8693da7d220a052bef74b", func := "drydock/drydocklaw03.ProgSame", spec := "progSame", unfollowed := true, recurses := true, apart := false }
def ProgSameSaid : Prop := progSameRow.holds Try.pinned (OpenSpec.ofChange progSameSpec)

/-- ITS FALSE NEIGHBOUR: 'it returns false'. Refute it at one input. -/
def progSameWrong : ChangeSpec := { name := "progSame", fn := fun _ => fun
  | [d1, d2, d3, d4] => { results := [.lit (.bool false)], args := [d1, d2, d3, d4] }
  | _ => none }
def ProgSameWrongFalsely : Prop := progSameRow.holds Try.pinned (OpenSpec.ofChange progSameWrong)

/-- 'drydocklaw03.ProgSwap': WHATEVER THE INPUT: true; the input reads as it did. -/
def progSwapSpec : ChangeSpec := { name := "progSwap", fn := fun _ => fun
  | [d1, d2, d3] => { results := [.lit (.bool true)], args := [d1, d2, d3] }
  | _ => none }
def progSwapRow : OpenClaim := { program := "ytcllifcafgiopaa", sum := "e9c7c4cb767449201a75da617b768db679cd1f8f67e8693da7d220a052bef74b", func := "drydock/drydocklaw03.ProgSwap", spec := "progSwap", unfollowed := true, recurses := true, apart := false }
def ProgSwapSaid : Prop := progSwapRow.holds Try.pinned (OpenSpec.ofChange progSwapSpec)

/-- ITS FALSE NEIGHBOUR: 'it returns false'. Refute it at one input. -/
def progSwapWrong : ChangeSpec := { name := "progSwap", fn := fun _ => fun
  | [d1, d2, d3] => { results := [.lit (.bool false)], args := [d1, d2, d3] }
  | _ => none }
def ProgSwapWrongFalsely : Prop := progSwapRow.holds Try.pinned (OpenSpec.ofChange progSwapWrong)

/-- 'drydocklaw03.ProgTells': WHATEVER THE INPUT: true; the input reads as it did. -/
def progTellsSpec : ChangeSpec := { name := "progTells", fn := fun _ => fun
  | [d1, d2, d3, d4] => { results := [.lit (.bool true)], args := [d1, d2, d3, d4] }
  | _ => none }
def progTellsRow : OpenClaim := { program := "ytcllifcafgiopaa", sum := "e9c7c4cb767449201a75da617b768db679cd1f8f67e8693da7d220a052bef74b", func := "drydock/drydocklaw03.ProgTells", spec := "progTells", unfollowed := true, recurses := true, apart := false }
def ProgTellsSaid : Prop := progTellsRow.holds Try.pinned (OpenSpec.ofChange progTellsSpec)

/-- ITS FALSE NEIGHBOUR: 'it returns false'. Refute it at one input. -/
def progTellsWrong : ChangeSpec := { name := "progTells", fn := fun _ => fun
  | [d1, d2, d3, d4] => { results := [.lit (.bool false)], args := [d1, d2, d3, d4] }
  | _ => none }
def ProgTellsWrongFalsely : Prop := progTellsRow.holds Try.pinned (OpenSpec.ofChange progTellsWrong)

/- THE SECOND FORM. 'bulk': how many values and letters a reading holds, each counted each time it is reached (what is shared counts as often as it is met; a slice's spare places count too). A statement '..UptoSaid' is the law's where the arguments, and the package variables that the reading takes, are together of bulk at most 1048576: NARROWER than '..Said'. Prove '..Said' where nothing that the law and all that it calls make is longer than what came in: it says more and counts as full. Else prove '..UptoSaid'. A law counts once. -/
mutual
def uptoBulk {H : Type} : DataW H → Nat
  | .lit (.string bytes) => bytes.length + 1
  | .lit _ => 1
  | .nil => 1
  | .ptr d => uptoBulk d + 1
  | .slice elems spare => uptoBulkAll elems + uptoBulkAll spare + 1
  | .agg parts => uptoBulkAll parts + 1
  | .iface _ d => uptoBulk d + 1
  | .map entries => uptoBulkEntries entries + 1
  | .held _ => 1
def uptoBulkAll {H : Type} : List (DataW H) → Nat
  | [] => 0
  | d :: r => uptoBulk d + uptoBulkAll r
def uptoBulkEntries {H : Type} : List (Lit × DataW H) → Nat
  | [] => 0
  | x :: r => uptoBulkEntry x + uptoBulkEntries r
def uptoBulkEntry {H : Type} : Lit × DataW H → Nat
  | (.string bytes, d) => bytes.length + uptoBulk d + 1
  | (_, d) => uptoBulk d + 1
 end
def uptoSmall : (H : Type) → List (DataW H) → Bool := fun _ ds => decide (uptoBulkAll ds ≤ 1048576)
def OpenSpec.upto (s : _root_.Go.ChangeSpec) : _root_.Go.OpenSpec := { _root_.Go.OpenSpec.ofChange s with cond := some uptoSmall }

/-- 'drydocklaw03.ProgBack', WHERE WHAT IT READS IS OF BULK AT MOST 1048576: true; the input reads as it did. -/
def progBackUptoRow : OpenClaim := { program := "ytcllifcafgiopaa", sum := "e9c7c4cb767449201a75da617b768db679cd1f8f67e8693da7d220a052bef74b", func := "drydock/drydocklaw03.ProgBack", spec := "progBack", unfollowed := true, recurses := true, apart := false, narrowed := true }
def ProgBackUptoSaid : Prop := progBackUptoRow.holds Try.pinned (OpenSpec.upto progBackSpec)

/-- 'drydocklaw03.ProgLong', WHERE WHAT IT READS IS OF BULK AT MOST 1048576: true; the input reads as it did. -/
def progLongUptoRow : OpenClaim := { program := "ytcllifcafgiopaa", sum := "e9c7c4cb767449201a75da617b768db679cd1f8f67e8693da7d220a052bef74b", func := "drydock/drydocklaw03.ProgLong", spec := "progLong", unfollowed := true, recurses := true, apart := false, narrowed := true }
def ProgLongUptoSaid : Prop := progLongUptoRow.holds Try.pinned (OpenSpec.upto progLongSpec)

/-- 'drydocklaw03.ProgParts', WHERE WHAT IT READS IS OF BULK AT MOST 1048576: true; the input reads as it did. -/
def progPartsUptoRow : OpenClaim := { program := "ytcllifcafgiopaa", sum := "e9c7c4cb767449201a75da617b768db679cd1f8f67e8693da7d220a052bef74b", func := "drydock/drydocklaw03.ProgParts", spec := "progParts", unfollowed := true, recurses := true, apart := false, narrowed := true }
def ProgPartsUptoSaid : Prop := progPartsUptoRow.holds Try.pinned (OpenSpec.upto progPartsSpec)

/-- 'drydocklaw03.ProgSame', WHERE WHAT IT READS IS OF BULK AT MOST 1048576: true; the input reads as it did. -/
def progSameUptoRow : OpenClaim := { program := "ytcllifcafgiopaa", sum := "e9c7c4cb767449201a75da617b768db679cd1f8f67e8693da7d220a052bef74b", func := "drydock/drydocklaw03.ProgSame", spec := "progSame", unfollowed := true, recurses := true, apart := false, narrowed := true }
def ProgSameUptoSaid : Prop := progSameUptoRow.holds Try.pinned (OpenSpec.upto progSameSpec)

/-- 'drydocklaw03.ProgSwap', WHERE WHAT IT READS IS OF BULK AT MOST 1048576: true; the input reads as it did. -/
def progSwapUptoRow : OpenClaim := { program := "ytcllifcafgiopaa", sum := "e9c7c4cb767449201a75da617b768db679cd1f8f67e8693da7d220a052bef74b", func := "drydock/drydocklaw03.ProgSwap", spec := "progSwap", unfollowed := true, recurses := true, apart := false, narrowed := true }
def ProgSwapUptoSaid : Prop := progSwapUptoRow.holds Try.pinned (OpenSpec.upto progSwapSpec)

/-- 'drydocklaw03.ProgTells', WHERE WHAT IT READS IS OF BULK AT MOST 1048576: true; the input reads as it did. -/
def progTellsUptoRow : OpenClaim := { program := "ytcllifcafgiopaa", sum := "e9c7c4cb767449201a75da617b768db679cd1f8f67e8693da7d220a052bef74b", func := "drydock/drydocklaw03.ProgTells", spec := "progTells", unfollowed := true, recurses := true, apart := false, narrowed := true }
def ProgTellsUptoSaid : Prop := progTellsUptoRow.holds Try.pinned (OpenSpec.upto progTellsSpec)

end Rows
end Go.Proofs.Ytcllifcafgiopaa
