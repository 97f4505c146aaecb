/-
  No cell of these rows narrows 'for every input' (looked for: loops, veiled, ifaces, maps, wideKeys, modest, calm, conditions, laid).
  DERIVED. THE GIVEN ROWS OF THIS SEAT. 8 by the template 'for every input the law returns true; each argument reads behind the call as it read before'; 0 by the template 'total and deterministic' (their statements: YtebpbogiifaneaaTotals.lean).
  GIVEN WITH THE SEED: the statements are not yours to turn. If you find one false, say at which input.
  Laid BY PROGRAM, IN A SANDBOX (cutbox-rows.mjs): the forced cells as the released guide's own fill.sh prints them over the translation 3db20a67d2d7bbb3… (all of the seat's roots in one cut). By AI agents, Wed Nov 11 2026. No macro, syntax, notation, axiom, sorry.
-/
import Derived.Test.YtebpbogiifaneaaChecked
import GoSem.Claim
import GoSem.ClaimJoined
import GoSem.ClaimMapViews
import Derived.JoinedTies
import Derived.KernelRfl
namespace Go.Proofs.Ytebpbogiifaneaa
/- THE CELL 'sum', in the pinned program and in every row, IS THE sha256 OF THE DUMP (.gsa) THAT YtebpbogiifaneaaProg.lean LOADS. Nothing in Lean hashes anything: it is a label: what it is worth is what the hold of that sum in a sandbox is worth. -/
noncomputable def Try.pinned : Pinned := { name := "ytebpbogiifaneaa", sum := "3db20a67d2d7bbb307fa8a847486d656c813957a392a5fb36786be7ca51874f7", checked := Try.checked }
namespace Rows
def none {H : Type} : Left H := { results := [], args := [] }

/-- 'drydocklaw01.AluBack': WHATEVER THE INPUT: true; the input reads as it did. -/
def aluBackSpec : ChangeSpec := { name := "aluBack", fn := fun _ => fun
  | [d1, d2] => { results := [.lit (.bool true)], args := [d1, d2] }
  | _ => none }
def aluBackRow : OpenClaim := { program := "ytebpbogiifaneaa", sum := "3db20a67d2d7bbb307fa8a847486d656c813957a392a5fb36786be7ca51874f7", func := "drydock/drydocklaw01.AluBack", spec := "aluBack", unfollowed := true, recurses := true, apart := false }
def AluBackSaid : Prop := aluBackRow.holds Try.pinned (OpenSpec.ofChange aluBackSpec)

/-- ITS FALSE NEIGHBOUR: 'it returns false'. Refute it at one input. -/
def aluBackWrong : ChangeSpec := { name := "aluBack", fn := fun _ => fun
  | [d1, d2] => { results := [.lit (.bool false)], args := [d1, d2] }
  | _ => none }
def AluBackWrongFalsely : Prop := aluBackRow.holds Try.pinned (OpenSpec.ofChange aluBackWrong)

/-- 'drydocklaw01.AluOrder': WHATEVER THE INPUT: true; the input reads as it did. -/
def aluOrderSpec : ChangeSpec := { name := "aluOrder", fn := fun _ => fun
  | [d1, d2, d3] => { results := [.lit (.bool true)], args := [d1, d2, d3] }
  | _ => none }
def aluOrderRow : OpenClaim := { program := "ytebpbogiifaneaa", sum := "3db20a67d2d7bbb307fa8a847486d656c813957a392a5fb36786be7ca51874f7", func := "drydock/drydocklaw01.AluOrder", spec := "aluOrder", unfollowed := true, recurses := true, apart := false }
def AluOrderSaid : Prop := aluOrderRow.holds Try.pinned (OpenSpec.ofChange aluOrderSpec)

/-- ITS FALSE NEIGHBOUR: 'it returns false'. Refute it at one input. -/
def aluOrderWrong : ChangeSpec := { name := "aluOrder", fn := fun _ => fun
  | [d1, d2, d3] => { results := [.lit (.bool false)], args := [d1, d2, d3] }
  | _ => none }
def AluOrderWrongFalsely : Prop := aluOrderRow.holds Try.pinned (OpenSpec.ofChange aluOrderWrong)

/-- 'drydocklaw01.AluShifts': WHATEVER THE INPUT: true; the input reads as it did. -/
def aluShiftsSpec : ChangeSpec := { name := "aluShifts", fn := fun _ => fun
  | [d1, d2] => { results := [.lit (.bool true)], args := [d1, d2] }
  | _ => none }
def aluShiftsRow : OpenClaim := { program := "ytebpbogiifaneaa", sum := "3db20a67d2d7bbb307fa8a847486d656c813957a392a5fb36786be7ca51874f7", func := "drydock/drydocklaw01.AluShifts", spec := "aluShifts", unfollowed := true, recurses := true, apart := false }
def AluShiftsSaid : Prop := aluShiftsRow.holds Try.pinned (OpenSpec.ofChange aluShiftsSpec)

/-- ITS FALSE NEIGHBOUR: 'it returns false'. Refute it at one input. -/
def aluShiftsWrong : ChangeSpec := { name := "aluShifts", fn := fun _ => fun
  | [d1, d2] => { results := [.lit (.bool false)], args := [d1, d2] }
  | _ => none }
def AluShiftsWrongFalsely : Prop := aluShiftsRow.holds Try.pinned (OpenSpec.ofChange aluShiftsWrong)

/-- 'drydocklaw01.AluEnds': WHATEVER THE INPUT: true; the input reads as it did. -/
def aluEndsSpec : ChangeSpec := { name := "aluEnds", fn := fun _ => fun
  | [d] => { results := [.lit (.bool true)], args := [d] }
  | _ => none }
def aluEndsRow : OpenClaim := { program := "ytebpbogiifaneaa", sum := "3db20a67d2d7bbb307fa8a847486d656c813957a392a5fb36786be7ca51874f7", func := "drydock/drydocklaw01.AluEnds", spec := "aluEnds", unfollowed := true, recurses := true, apart := false }
def AluEndsSaid : Prop := aluEndsRow.holds Try.pinned (OpenSpec.ofChange aluEndsSpec)

/-- ITS FALSE NEIGHBOUR: 'it returns false'. Refute it at one input. -/
def aluEndsWrong : ChangeSpec := { name := "aluEnds", fn := fun _ => fun
  | [d] => { results := [.lit (.bool false)], args := [d] }
  | _ => none }
def AluEndsWrongFalsely : Prop := aluEndsRow.holds Try.pinned (OpenSpec.ofChange aluEndsWrong)

/-- 'drydocklaw01.AluLess': WHATEVER THE INPUT: true; the input reads as it did. -/
def aluLessSpec : ChangeSpec := { name := "aluLess", fn := fun _ => fun
  | [d1, d2] => { results := [.lit (.bool true)], args := [d1, d2] }
  | _ => none }
def aluLessRow : OpenClaim := { program := "ytebpbogiifaneaa", sum := "3db20a67d2d7bbb307fa8a847486d656c813957a392a5fb36786be7ca51874f7", func := "drydock/drydocklaw01.AluLess", spec := "aluLess", unfollowed := true, recurses := true, apart := false }
def AluLessSaid : Prop := aluLessRow.holds Try.pinned (OpenSpec.ofChange aluLessSpec)

/-- ITS FALSE NEIGHBOUR: 'it returns false'. Refute it at one input. -/
def aluLessWrong : ChangeSpec := { name := "aluLess", fn := fun _ => fun
  | [d1, d2] => { results := [.lit (.bool false)], args := [d1, d2] }
  | _ => none }
def AluLessWrongFalsely : Prop := aluLessRow.holds Try.pinned (OpenSpec.ofChange aluLessWrong)

/-- 'drydocklaw01.AluTells': WHATEVER THE INPUT: true; the input reads as it did. -/
def aluTellsSpec : ChangeSpec := { name := "aluTells", fn := fun _ => fun
  | [d1, d2, d3] => { results := [.lit (.bool true)], args := [d1, d2, d3] }
  | _ => none }
def aluTellsRow : OpenClaim := { program := "ytebpbogiifaneaa", sum := "3db20a67d2d7bbb307fa8a847486d656c813957a392a5fb36786be7ca51874f7", func := "drydock/drydocklaw01.AluTells", spec := "aluTells", unfollowed := true, recurses := true, apart := false }
def AluTellsSaid : Prop := aluTellsRow.holds Try.pinned (OpenSpec.ofChange aluTellsSpec)

/-- ITS FALSE NEIGHBOUR: 'it returns false'. Refute it at one input. -/
def aluTellsWrong : ChangeSpec := { name := "aluTells", fn := fun _ => fun
  | [d1, d2, d3] => { results := [.lit (.bool false)], args := [d1, d2, d3] }
  | _ => none }
def AluTellsWrongFalsely : Prop := aluTellsRow.holds Try.pinned (OpenSpec.ofChange aluTellsWrong)

/-- 'drydocklaw01.AluHolds': WHATEVER THE INPUT: true; the input reads as it did. -/
def aluHoldsSpec : ChangeSpec := { name := "aluHolds", fn := fun _ => fun
  | [d1, d2] => { results := [.lit (.bool true)], args := [d1, d2] }
  | _ => none }
def aluHoldsRow : OpenClaim := { program := "ytebpbogiifaneaa", sum := "3db20a67d2d7bbb307fa8a847486d656c813957a392a5fb36786be7ca51874f7", func := "drydock/drydocklaw01.AluHolds", spec := "aluHolds", unfollowed := true, recurses := true, apart := false }
def AluHoldsSaid : Prop := aluHoldsRow.holds Try.pinned (OpenSpec.ofChange aluHoldsSpec)

/-- ITS FALSE NEIGHBOUR: 'it returns false'. Refute it at one input. -/
def aluHoldsWrong : ChangeSpec := { name := "aluHolds", fn := fun _ => fun
  | [d1, d2] => { results := [.lit (.bool false)], args := [d1, d2] }
  | _ => none }
def AluHoldsWrongFalsely : Prop := aluHoldsRow.holds Try.pinned (OpenSpec.ofChange aluHoldsWrong)

/-- 'drydocklaw01.AluWrong': WHATEVER THE INPUT: true; the input reads as it did. -/
def aluWrongSpec : ChangeSpec := { name := "aluWrong", fn := fun _ => fun
  | [d1, d2, d3] => { results := [.lit (.bool true)], args := [d1, d2, d3] }
  | _ => none }
def aluWrongRow : OpenClaim := { program := "ytebpbogiifaneaa", sum := "3db20a67d2d7bbb307fa8a847486d656c813957a392a5fb36786be7ca51874f7", func := "drydock/drydocklaw01.AluWrong", spec := "aluWrong", unfollowed := true, recurses := true, apart := false }
def AluWrongSaid : Prop := aluWrongRow.holds Try.pinned (OpenSpec.ofChange aluWrongSpec)

/-- ITS FALSE NEIGHBOUR: 'it returns false'. Refute it at one input. -/
def aluWrongWrong : ChangeSpec := { name := "aluWrong", fn := fun _ => fun
  | [d1, d2, d3] => { results := [.lit (.bool false)], args := [d1, d2, d3] }
  | _ => none }
def AluWrongWrongFalsely : Prop := aluWrongRow.holds Try.pinned (OpenSpec.ofChange aluWrongWrong)

/- THE SECOND FORM. 'bulk': how many values and letters a reading holds, each counted each time it is reached (what is shared counts as often as it is met; a slice's spare places count too). A statement '..UptoSaid' is the law's where the arguments, and the package variables that the reading takes, are together of bulk at most 1048576: NARROWER than '..Said'. Prove '..Said' where nothing that the law and all that it calls make is longer than what came in: it says more and counts as full. Else prove '..UptoSaid'. A law counts once. -/
mutual
def uptoBulk {H : Type} : DataW H → Nat
  | .lit (.string bytes) => bytes.length + 1
  | .lit _ => 1
  | .nil => 1
  | .ptr d => uptoBulk d + 1
  | .slice elems spare => uptoBulkAll elems + uptoBulkAll spare + 1
  | .agg parts => uptoBulkAll parts + 1
  | .iface _ d => uptoBulk d + 1
  | .map entries => uptoBulkEntries entries + 1
  | .held _ => 1
def uptoBulkAll {H : Type} : List (DataW H) → Nat
  | [] => 0
  | d :: r => uptoBulk d + uptoBulkAll r
def uptoBulkEntries {H : Type} : List (Lit × DataW H) → Nat
  | [] => 0
  | x :: r => uptoBulkEntry x + uptoBulkEntries r
def uptoBulkEntry {H : Type} : Lit × DataW H → Nat
  | (.string bytes, d) => bytes.length + uptoBulk d + 1
  | (_, d) => uptoBulk d + 1
 end
def uptoSmall : (H : Type) → List (DataW H) → Bool := fun _ ds => decide (uptoBulkAll ds ≤ 1048576)
def OpenSpec.upto (s : _root_.Go.ChangeSpec) : _root_.Go.OpenSpec := { _root_.Go.OpenSpec.ofChange s with cond := some uptoSmall }

/-- 'drydocklaw01.AluBack', WHERE WHAT IT READS IS OF BULK AT MOST 1048576: true; the input reads as it did. -/
def aluBackUptoRow : OpenClaim := { program := "ytebpbogiifaneaa", sum := "3db20a67d2d7bbb307fa8a847486d656c813957a392a5fb36786be7ca51874f7", func := "drydock/drydocklaw01.AluBack", spec := "aluBack", unfollowed := true, recurses := true, apart := false, narrowed := true }
def AluBackUptoSaid : Prop := aluBackUptoRow.holds Try.pinned (OpenSpec.upto aluBackSpec)

/-- 'drydocklaw01.AluOrder', WHERE WHAT IT READS IS OF BULK AT MOST 1048576: true; the input reads as it did. -/
def aluOrderUptoRow : OpenClaim := { program := "ytebpbogiifaneaa", sum := "3db20a67d2d7bbb307fa8a847486d656c813957a392a5fb36786be7ca51874f7", func := "drydock/drydocklaw01.AluOrder", spec := "aluOrder", unfollowed := true, recurses := true, apart := false, narrowed := true }
def AluOrderUptoSaid : Prop := aluOrderUptoRow.holds Try.pinned (OpenSpec.upto aluOrderSpec)

/-- 'drydocklaw01.AluShifts', WHERE WHAT IT READS IS OF BULK AT MOST 1048576: true; the input reads as it did. -/
def aluShiftsUptoRow : OpenClaim := { program := "ytebpbogiifaneaa", sum := "3db20a67d2d7bbb307fa8a847486d656c813957a392a5fb36786be7ca51874f7", func := "drydock/drydocklaw01.AluShifts", spec := "aluShifts", unfollowed := true, recurses := true, apart := false, narrowed := true }
def AluShiftsUptoSaid : Prop := aluShiftsUptoRow.holds Try.pinned (OpenSpec.upto aluShiftsSpec)

/-- 'drydocklaw01.AluEnds', WHERE WHAT IT READS IS OF BULK AT MOST 1048576: true; the input reads as it did. -/
def aluEndsUptoRow : OpenClaim := { program := "ytebpbogiifaneaa", sum := "3db20a67d2d7bbb307fa8a847486d656c813957a392a5fb36786be7ca51874f7", func := "drydock/drydocklaw01.AluEnds", spec := "aluEnds", unfollowed := true, recurses := true, apart := false, narrowed := true }
def AluEndsUptoSaid : Prop := aluEndsUptoRow.holds Try.pinned (OpenSpec.upto aluEndsSpec)

/-- 'drydocklaw01.AluLess', WHERE WHAT IT READS IS OF BULK AT MOST 1048576: true; the input reads as it did. -/
def aluLessUptoRow : OpenClaim := { program := "ytebpbogiifaneaa", sum := "3db20a67d2d7bbb307fa8a847486d656c813957a392a5fb36786be7ca51874f7", func := "drydock/drydocklaw01.AluLess", spec := "aluLess", unfollowed := true, recurses := true, apart := false, narrowed := true }
def AluLessUptoSaid : Prop := aluLessUptoRow.holds Try.pinned (OpenSpec.upto aluLessSpec)

/-- 'drydocklaw01.AluTells', WHERE WHAT IT READS IS OF BULK AT MOST 1048576: true; the input reads as it did. -/
def aluTellsUptoRow : OpenClaim := { program := "ytebpbogiifaneaa", sum := "3db20a67d2d7bbb307fa8a847486d656c813957a392a5fb36786be7ca51874f7", func := "drydock/drydocklaw01.AluTells", spec := "aluTells", unfollowed := true, recurses := true, apart := false, narrowed := true }
def AluTellsUptoSaid : Prop := aluTellsUptoRow.holds Try.pinned (OpenSpec.upto aluTellsSpec)

/-- 'drydocklaw01.AluHolds', WHERE WHAT IT READS IS OF BULK AT MOST 1048576: true; the input reads as it did. -/
def aluHoldsUptoRow : OpenClaim := { program := "ytebpbogiifaneaa", sum := "3db20a67d2d7bbb307fa8a847486d656c813957a392a5fb36786be7ca51874f7", func := "drydock/drydocklaw01.AluHolds", spec := "aluHolds", unfollowed := true, recurses := true, apart := false, narrowed := true }
def AluHoldsUptoSaid : Prop := aluHoldsUptoRow.holds Try.pinned (OpenSpec.upto aluHoldsSpec)

/-- 'drydocklaw01.AluWrong', WHERE WHAT IT READS IS OF BULK AT MOST 1048576: true; the input reads as it did. -/
def aluWrongUptoRow : OpenClaim := { program := "ytebpbogiifaneaa", sum := "3db20a67d2d7bbb307fa8a847486d656c813957a392a5fb36786be7ca51874f7", func := "drydock/drydocklaw01.AluWrong", spec := "aluWrong", unfollowed := true, recurses := true, apart := false, narrowed := true }
def AluWrongUptoSaid : Prop := aluWrongUptoRow.holds Try.pinned (OpenSpec.upto aluWrongSpec)

end Rows
end Go.Proofs.Ytebpbogiifaneaa
