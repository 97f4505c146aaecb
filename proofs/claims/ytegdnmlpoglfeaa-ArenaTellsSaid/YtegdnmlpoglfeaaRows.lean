/-
  No cell of these rows narrows 'for every input' (looked for: loops, veiled, ifaces, maps, wideKeys, modest, calm, conditions, laid).
  DERIVED. THE GIVEN ROWS OF THIS SEAT. 6 by the template 'for every input the law returns true; each argument reads behind the call as it read before'; 0 by the template 'total and deterministic' (their statements: YtegdnmlpoglfeaaTotals.lean).
  GIVEN WITH THE SEED: the statements are not yours to turn. If you find one false, say at which input.
  Laid BY PROGRAM, IN A SANDBOX (cutbox-rows.mjs): the forced cells as the released guide's own fill.sh prints them over the translation b4232332d1a35437… (all of the seat's roots in one cut). By AI agents, Wed Nov 11 2026. No macro, syntax, notation, axiom, sorry.
-/
import Derived.Test.YtegdnmlpoglfeaaChecked
import GoSem.Claim
import GoSem.ClaimJoined
import GoSem.ClaimMapViews
import Derived.JoinedTies
import Derived.KernelRfl
namespace Go.Proofs.Ytegdnmlpoglfeaa
/- THE CELL 'sum', in the pinned program and in every row, IS THE sha256 OF THE DUMP (.gsa) THAT YtegdnmlpoglfeaaProg.lean LOADS. Nothing in Lean hashes anything: it is a label: what it is worth is what the hold of that sum in a sandbox is worth. -/
noncomputable def Try.pinned : Pinned := { name := "ytegdnmlpoglfeaa", sum := "b4232332d1a3543783497d1781db5cc75844c485aede53eb7c3376ef20d2f537", checked := Try.checked }
namespace Rows
def none {H : Type} : Left H := { results := [], args := [] }

/-- 'drydocklaw13.ArenaOrder': WHATEVER THE INPUT: true; the input reads as it did. -/
def arenaOrderSpec : ChangeSpec := { name := "arenaOrder", fn := fun _ => fun
  | [d1, d2, d3] => { results := [.lit (.bool true)], args := [d1, d2, d3] }
  | _ => none }
def arenaOrderRow : OpenClaim := { program := "ytegdnmlpoglfeaa", sum := "b4232332d1a3543783497d1781db5cc75844c485aede53eb7c3376ef20d2f537", func := "drydock/drydocklaw13.ArenaOrder", spec := "arenaOrder", unfollowed := true, recurses := true, apart := false }
def ArenaOrderSaid : Prop := arenaOrderRow.holds Try.pinned (OpenSpec.ofChange arenaOrderSpec)

/-- ITS FALSE NEIGHBOUR: 'it returns false'. Refute it at one input. -/
def arenaOrderWrong : ChangeSpec := { name := "arenaOrder", fn := fun _ => fun
  | [d1, d2, d3] => { results := [.lit (.bool false)], args := [d1, d2, d3] }
  | _ => none }
def ArenaOrderWrongFalsely : Prop := arenaOrderRow.holds Try.pinned (OpenSpec.ofChange arenaOrderWrong)

/-- 'drydocklaw13.ArenaGap': WHATEVER THE INPUT: true; the input reads as it did. -/
def arenaGapSpec : ChangeSpec := { name := "arenaGap", fn := fun _ => fun
  | [d1, d2, d3] => { results := [.lit (.bool true)], args := [d1, d2, d3] }
  | _ => none }
def arenaGapRow : OpenClaim := { program := "ytegdnmlpoglfeaa", sum := "b4232332d1a3543783497d1781db5cc75844c485aede53eb7c3376ef20d2f537", func := "drydock/drydocklaw13.ArenaGap", spec := "arenaGap", unfollowed := true, recurses := true, apart := false }
def ArenaGapSaid : Prop := arenaGapRow.holds Try.pinned (OpenSpec.ofChange arenaGapSpec)

/-- ITS FALSE NEIGHBOUR: 'it returns false'. Refute it at one input. -/
def arenaGapWrong : ChangeSpec := { name := "arenaGap", fn := fun _ => fun
  | [d1, d2, d3] => { results := [.lit (.bool false)], args := [d1, d2, d3] }
  | _ => none }
def ArenaGapWrongFalsely : Prop := arenaGapRow.holds Try.pinned (OpenSpec.ofChange arenaGapWrong)

/-- 'drydocklaw13.ArenaWhole': WHATEVER THE INPUT: true; the input reads as it did. -/
def arenaWholeSpec : ChangeSpec := { name := "arenaWhole", fn := fun _ => fun
  | [d] => { results := [.lit (.bool true)], args := [d] }
  | _ => none }
def arenaWholeRow : OpenClaim := { program := "ytegdnmlpoglfeaa", sum := "b4232332d1a3543783497d1781db5cc75844c485aede53eb7c3376ef20d2f537", func := "drydock/drydocklaw13.ArenaWhole", spec := "arenaWhole", unfollowed := true, recurses := true, apart := false }
def ArenaWholeSaid : Prop := arenaWholeRow.holds Try.pinned (OpenSpec.ofChange arenaWholeSpec)

/-- ITS FALSE NEIGHBOUR: 'it returns false'. Refute it at one input. -/
def arenaWholeWrong : ChangeSpec := { name := "arenaWhole", fn := fun _ => fun
  | [d] => { results := [.lit (.bool false)], args := [d] }
  | _ => none }
def ArenaWholeWrongFalsely : Prop := arenaWholeRow.holds Try.pinned (OpenSpec.ofChange arenaWholeWrong)

/-- 'drydocklaw13.ArenaBack': WHATEVER THE INPUT: true; the input reads as it did. -/
def arenaBackSpec : ChangeSpec := { name := "arenaBack", fn := fun _ => fun
  | [d1, d2, d3] => { results := [.lit (.bool true)], args := [d1, d2, d3] }
  | _ => none }
def arenaBackRow : OpenClaim := { program := "ytegdnmlpoglfeaa", sum := "b4232332d1a3543783497d1781db5cc75844c485aede53eb7c3376ef20d2f537", func := "drydock/drydocklaw13.ArenaBack", spec := "arenaBack", unfollowed := true, recurses := true, apart := false }
def ArenaBackSaid : Prop := arenaBackRow.holds Try.pinned (OpenSpec.ofChange arenaBackSpec)

/-- ITS FALSE NEIGHBOUR: 'it returns false'. Refute it at one input. -/
def arenaBackWrong : ChangeSpec := { name := "arenaBack", fn := fun _ => fun
  | [d1, d2, d3] => { results := [.lit (.bool false)], args := [d1, d2, d3] }
  | _ => none }
def ArenaBackWrongFalsely : Prop := arenaBackRow.holds Try.pinned (OpenSpec.ofChange arenaBackWrong)

/-- 'drydocklaw13.ArenaPatch': WHATEVER THE INPUT: true; the input reads as it did. -/
def arenaPatchSpec : ChangeSpec := { name := "arenaPatch", fn := fun _ => fun
  | [d1, d2, d3, d4] => { results := [.lit (.bool true)], args := [d1, d2, d3, d4] }
  | _ => none }
def arenaPatchRow : OpenClaim := { program := "ytegdnmlpoglfeaa", sum := "b4232332d1a3543783497d1781db5cc75844c485aede53eb7c3376ef20d2f537", func := "drydock/drydocklaw13.ArenaPatch", spec := "arenaPatch", unfollowed := true, recurses := true, apart := false }
def ArenaPatchSaid : Prop := arenaPatchRow.holds Try.pinned (OpenSpec.ofChange arenaPatchSpec)

/-- ITS FALSE NEIGHBOUR: 'it returns false'. Refute it at one input. -/
def arenaPatchWrong : ChangeSpec := { name := "arenaPatch", fn := fun _ => fun
  | [d1, d2, d3, d4] => { results := [.lit (.bool false)], args := [d1, d2, d3, d4] }
  | _ => none }
def ArenaPatchWrongFalsely : Prop := arenaPatchRow.holds Try.pinned (OpenSpec.ofChange arenaPatchWrong)

/-- 'drydocklaw13.ArenaTells': WHATEVER THE INPUT: true; the input reads as it did. -/
def arenaTellsSpec : ChangeSpec := { name := "arenaTells", fn := fun _ => fun
  | [d1, d2, d3, d4, d5] => { results := [.lit (.bool true)], args := [d1, d2, d3, d4, d5] }
  | _ => none }
def arenaTellsRow : OpenClaim := { program := "ytegdnmlpoglfeaa", sum := "b4232332d1a3543783497d1781db5cc75844c485aede53eb7c3376ef20d2f537", func := "drydock/drydocklaw13.ArenaTells", spec := "arenaTells", unfollowed := true, recurses := true, apart := false }
def ArenaTellsSaid : Prop := arenaTellsRow.holds Try.pinned (OpenSpec.ofChange arenaTellsSpec)

/-- ITS FALSE NEIGHBOUR: 'it returns false'. Refute it at one input. -/
def arenaTellsWrong : ChangeSpec := { name := "arenaTells", fn := fun _ => fun
  | [d1, d2, d3, d4, d5] => { results := [.lit (.bool false)], args := [d1, d2, d3, d4, d5] }
  | _ => none }
def ArenaTellsWrongFalsely : Prop := arenaTellsRow.holds Try.pinned (OpenSpec.ofChange arenaTellsWrong)

/- THE SECOND FORM. 'bulk': how many values and letters a reading holds, each counted each time it is reached (what is shared counts as often as it is met; a slice's spare places count too). A statement '..UptoSaid' is the law's where the arguments, and the package variables that the reading takes, are together of bulk at most 1048576: NARROWER than '..Said'. Prove '..Said' where nothing that the law and all that it calls make is longer than what came in: it says more and counts as full. Else prove '..UptoSaid'. A law counts once. -/
mutual
def uptoBulk {H : Type} : DataW H → Nat
  | .lit (.string bytes) => bytes.length + 1
  | .lit _ => 1
  | .nil => 1
  | .ptr d => uptoBulk d + 1
  | .slice elems spare => uptoBulkAll elems + uptoBulkAll spare + 1
  | .agg parts => uptoBulkAll parts + 1
  | .iface _ d => uptoBulk d + 1
  | .map entries => uptoBulkEntries entries + 1
  | .held _ => 1
def uptoBulkAll {H : Type} : List (DataW H) → Nat
  | [] => 0
  | d :: r => uptoBulk d + uptoBulkAll r
def uptoBulkEntries {H : Type} : List (Lit × DataW H) → Nat
  | [] => 0
  | x :: r => uptoBulkEntry x + uptoBulkEntries r
def uptoBulkEntry {H : Type} : Lit × DataW H → Nat
  | (.string bytes, d) => bytes.length + uptoBulk d + 1
  | (_, d) => uptoBulk d + 1
 end
def uptoSmall : (H : Type) → List (DataW H) → Bool := fun _ ds => decide (uptoBulkAll ds ≤ 1048576)
def OpenSpec.upto (s : _root_.Go.ChangeSpec) : _root_.Go.OpenSpec := { _root_.Go.OpenSpec.ofChange s with cond := some uptoSmall }

/-- 'drydocklaw13.ArenaOrder', WHERE WHAT IT READS IS OF BULK AT MOST 1048576: true; the input reads as it did. -/
def arenaOrderUptoRow : OpenClaim := { program := "ytegdnmlpoglfeaa", sum := "b4232332d1a3543783497d1781db5cc75844c485aede53eb7c3376ef20d2f537", func := "drydock/drydocklaw13.ArenaOrder", spec := "arenaOrder", unfollowed := true, recurses := true, apart := false, narrowed := true }
def ArenaOrderUptoSaid : Prop := arenaOrderUptoRow.holds Try.pinned (OpenSpec.upto arenaOrderSpec)

/-- 'drydocklaw13.ArenaGap', WHERE WHAT IT READS IS OF BULK AT MOST 1048576: true; the input reads as it did. -/
def arenaGapUptoRow : OpenClaim := { program := "ytegdnmlpoglfeaa", sum := "b4232332d1a3543783497d1781db5cc75844c485aede53eb7c3376ef20d2f537", func := "drydock/drydocklaw13.ArenaGap", spec := "arenaGap", unfollowed := true, recurses := true, apart := false, narrowed := true }
def ArenaGapUptoSaid : Prop := arenaGapUptoRow.holds Try.pinned (OpenSpec.upto arenaGapSpec)

/-- 'drydocklaw13.ArenaWhole', WHERE WHAT IT READS IS OF BULK AT MOST 1048576: true; the input reads as it did. -/
def arenaWholeUptoRow : OpenClaim := { program := "ytegdnmlpoglfeaa", sum := "b4232332d1a3543783497d1781db5cc75844c485aede53eb7c3376ef20d2f537", func := "drydock/drydocklaw13.ArenaWhole", spec := "arenaWhole", unfollowed := true, recurses := true, apart := false, narrowed := true }
def ArenaWholeUptoSaid : Prop := arenaWholeUptoRow.holds Try.pinned (OpenSpec.upto arenaWholeSpec)

/-- 'drydocklaw13.ArenaBack', WHERE WHAT IT READS IS OF BULK AT MOST 1048576: true; the input reads as it did. -/
def arenaBackUptoRow : OpenClaim := { program := "ytegdnmlpoglfeaa", sum := "b4232332d1a3543783497d1781db5cc75844c485aede53eb7c3376ef20d2f537", func := "drydock/drydocklaw13.ArenaBack", spec := "arenaBack", unfollowed := true, recurses := true, apart := false, narrowed := true }
def ArenaBackUptoSaid : Prop := arenaBackUptoRow.holds Try.pinned (OpenSpec.upto arenaBackSpec)

/-- 'drydocklaw13.ArenaPatch', WHERE WHAT IT READS IS OF BULK AT MOST 1048576: true; the input reads as it did. -/
def arenaPatchUptoRow : OpenClaim := { program := "ytegdnmlpoglfeaa", sum := "b4232332d1a3543783497d1781db5cc75844c485aede53eb7c3376ef20d2f537", func := "drydock/drydocklaw13.ArenaPatch", spec := "arenaPatch", unfollowed := true, recurses := true, apart := false, narrowed := true }
def ArenaPatchUptoSaid : Prop := arenaPatchUptoRow.holds Try.pinned (OpenSpec.upto arenaPatchSpec)

/-- 'drydocklaw13.ArenaTells', WHERE WHAT IT READS IS OF BULK AT MOST 1048576: true; the input reads as it did. -/
def arenaTellsUptoRow : OpenClaim := { program := "ytegdnmlpoglfeaa", sum := "b4232332d1a3543783497d1781db5cc75844c485aede53eb7c3376ef20d2f537", func := "drydock/drydocklaw13.ArenaTells", spec := "arenaTells", unfollowed := true, recurses := true, apart := false, narrowed := true }
def ArenaTellsUptoSaid : Prop := arenaTellsUptoRow.holds Try.pinned (OpenSpec.upto arenaTellsSpec)

end Rows
end Go.Proofs.Ytegdnmlpoglfeaa
