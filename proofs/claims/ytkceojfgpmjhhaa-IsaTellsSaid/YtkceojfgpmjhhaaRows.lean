/-
  No cell of these rows narrows 'for every input' (looked for: loops, veiled, ifaces, maps, wideKeys, modest, calm, conditions, laid).
  DERIVED. THE GIVEN ROWS OF THIS SEAT. 6 by the template 'for every input the law returns true; each argument reads behind the call as it read before'; 0 by the template 'total and deterministic' (their statements: YtkceojfgpmjhhaaTotals.lean).
  GIVEN WITH THE SEED: the statements are not yours to turn. If you find one false, say at which input.
  Laid BY PROGRAM, IN A SANDBOX (cutbox-rows.mjs): the forced cells as the released guide's own fill.sh prints them over the translation edb4150995969f9d… (all of the seat's roots in one cut). By AI agents, Wed Nov 11 2026. No macro, syntax, notation, axiom, sorry.
-/
import Derived.Test.YtkceojfgpmjhhaaChecked
import GoSem.Claim
import GoSem.ClaimJoined
import GoSem.ClaimMapViews
import Derived.JoinedTies
import Derived.KernelRfl
namespace Go.Proofs.Ytkceojfgpmjhhaa
/- THE CELL 'sum', in the pinned program and in every row, IS THE sha256 OF THE DUMP (.gsa) THAT YtkceojfgpmjhhaaProg.lean LOADS. Nothing in Lean hashes anything: it is a label: what it is worth is what the hold of that sum in a sandbox is worth. -/
noncomputable def Try.pinned : Pinned := { name := "ytkceojfgpmjhhaa", sum := "edb4150995969f9dc83830d8a145fe6a4cbde2fd4e1237b74b027ef57a9ff1e6", checked := Try.checked }
namespace Rows
def none {H : Type} : Left H := { results := [], args := [] }

/-- 'drydocklaw12.IsaTells': WHATEVER THE INPUT: true; the input reads as it did. -/
def isaTellsSpec : ChangeSpec := { name := "isaTells", fn := fun _ => fun
  | [d1, d2, d3] => { results := [.lit (.bool true)], args := [d1, d2, d3] }
  | _ => none }
def isaTellsRow : OpenClaim := { program := "ytkceojfgpmjhhaa", sum := "edb4150995969f9dc83830d8a145fe6a4cbde2fd4e1237b74b027ef57a9ff1e6", func := "drydock/drydocklaw12.IsaTells", spec := "isaTells", apart := false }
def IsaTellsSaid : Prop := isaTellsRow.holds Try.pinned (OpenSpec.ofChange isaTellsSpec)

/-- ITS FALSE NEIGHBOUR: 'it returns false'. Refute it at one input. -/
def isaTellsWrong : ChangeSpec := { name := "isaTells", fn := fun _ => fun
  | [d1, d2, d3] => { results := [.lit (.bool false)], args := [d1, d2, d3] }
  | _ => none }
def IsaTellsWrongFalsely : Prop := isaTellsRow.holds Try.pinned (OpenSpec.ofChange isaTellsWrong)

/-- 'drydocklaw12.IsaBack': WHATEVER THE INPUT: true; the input reads as it did. -/
def isaBackSpec : ChangeSpec := { name := "isaBack", fn := fun _ => fun
  | [d1, d2, d3] => { results := [.lit (.bool true)], args := [d1, d2, d3] }
  | _ => none }
def isaBackRow : OpenClaim := { program := "ytkceojfgpmjhhaa", sum := "edb4150995969f9dc83830d8a145fe6a4cbde2fd4e1237b74b027ef57a9ff1e6", func := "drydock/drydocklaw12.IsaBack", spec := "isaBack", apart := false }
def IsaBackSaid : Prop := isaBackRow.holds Try.pinned (OpenSpec.ofChange isaBackSpec)

/-- ITS FALSE NEIGHBOUR: 'it returns false'. Refute it at one input. -/
def isaBackWrong : ChangeSpec := { name := "isaBack", fn := fun _ => fun
  | [d1, d2, d3] => { results := [.lit (.bool false)], args := [d1, d2, d3] }
  | _ => none }
def IsaBackWrongFalsely : Prop := isaBackRow.holds Try.pinned (OpenSpec.ofChange isaBackWrong)

/-- 'drydocklaw12.IsaCodes': WHATEVER THE INPUT: true; the input reads as it did. -/
def isaCodesSpec : ChangeSpec := { name := "isaCodes", fn := fun _ => fun
  | [d1, d2] => { results := [.lit (.bool true)], args := [d1, d2] }
  | _ => none }
def isaCodesRow : OpenClaim := { program := "ytkceojfgpmjhhaa", sum := "edb4150995969f9dc83830d8a145fe6a4cbde2fd4e1237b74b027ef57a9ff1e6", func := "drydock/drydocklaw12.IsaCodes", spec := "isaCodes", apart := false }
def IsaCodesSaid : Prop := isaCodesRow.holds Try.pinned (OpenSpec.ofChange isaCodesSpec)

/-- ITS FALSE NEIGHBOUR: 'it returns false'. Refute it at one input. -/
def isaCodesWrong : ChangeSpec := { name := "isaCodes", fn := fun _ => fun
  | [d1, d2] => { results := [.lit (.bool false)], args := [d1, d2] }
  | _ => none }
def IsaCodesWrongFalsely : Prop := isaCodesRow.holds Try.pinned (OpenSpec.ofChange isaCodesWrong)

/-- 'drydocklaw12.IsaWords': WHATEVER THE INPUT: true; the input reads as it did. -/
def isaWordsSpec : ChangeSpec := { name := "isaWords", fn := fun _ => fun
  | [d1, d2, d3] => { results := [.lit (.bool true)], args := [d1, d2, d3] }
  | _ => none }
def isaWordsRow : OpenClaim := { program := "ytkceojfgpmjhhaa", sum := "edb4150995969f9dc83830d8a145fe6a4cbde2fd4e1237b74b027ef57a9ff1e6", func := "drydock/drydocklaw12.IsaWords", spec := "isaWords", apart := false }
def IsaWordsSaid : Prop := isaWordsRow.holds Try.pinned (OpenSpec.ofChange isaWordsSpec)

/-- ITS FALSE NEIGHBOUR: 'it returns false'. Refute it at one input. -/
def isaWordsWrong : ChangeSpec := { name := "isaWords", fn := fun _ => fun
  | [d1, d2, d3] => { results := [.lit (.bool false)], args := [d1, d2, d3] }
  | _ => none }
def IsaWordsWrongFalsely : Prop := isaWordsRow.holds Try.pinned (OpenSpec.ofChange isaWordsWrong)

/-- 'drydocklaw12.IsaBits': WHATEVER THE INPUT: true; the input reads as it did. -/
def isaBitsSpec : ChangeSpec := { name := "isaBits", fn := fun _ => fun
  | [d1, d2] => { results := [.lit (.bool true)], args := [d1, d2] }
  | _ => none }
def isaBitsRow : OpenClaim := { program := "ytkceojfgpmjhhaa", sum := "edb4150995969f9dc83830d8a145fe6a4cbde2fd4e1237b74b027ef57a9ff1e6", func := "drydock/drydocklaw12.IsaBits", spec := "isaBits", apart := false }
def IsaBitsSaid : Prop := isaBitsRow.holds Try.pinned (OpenSpec.ofChange isaBitsSpec)

/-- ITS FALSE NEIGHBOUR: 'it returns false'. Refute it at one input. -/
def isaBitsWrong : ChangeSpec := { name := "isaBits", fn := fun _ => fun
  | [d1, d2] => { results := [.lit (.bool false)], args := [d1, d2] }
  | _ => none }
def IsaBitsWrongFalsely : Prop := isaBitsRow.holds Try.pinned (OpenSpec.ofChange isaBitsWrong)

/-- 'drydocklaw12.IsaFields': WHATEVER THE INPUT: true; the input reads as it did. -/
def isaFieldsSpec : ChangeSpec := { name := "isaFields", fn := fun _ => fun
  | [d1, d2] => { results := [.lit (.bool true)], args := [d1, d2] }
  | _ => none }
def isaFieldsRow : OpenClaim := { program := "ytkceojfgpmjhhaa", sum := "edb4150995969f9dc83830d8a145fe6a4cbde2fd4e1237b74b027ef57a9ff1e6", func := "drydock/drydocklaw12.IsaFields", spec := "isaFields", apart := false }
def IsaFieldsSaid : Prop := isaFieldsRow.holds Try.pinned (OpenSpec.ofChange isaFieldsSpec)

/-- ITS FALSE NEIGHBOUR: 'it returns false'. Refute it at one input. -/
def isaFieldsWrong : ChangeSpec := { name := "isaFields", fn := fun _ => fun
  | [d1, d2] => { results := [.lit (.bool false)], args := [d1, d2] }
  | _ => none }
def IsaFieldsWrongFalsely : Prop := isaFieldsRow.holds Try.pinned (OpenSpec.ofChange isaFieldsWrong)

/- THE SECOND FORM. 'bulk': how many values and letters a reading holds, each counted each time it is reached (what is shared counts as often as it is met; a slice's spare places count too). A statement '..UptoSaid' is the law's where the arguments, and the package variables that the reading takes, are together of bulk at most 1048576: NARROWER than '..Said'. Prove '..Said' where nothing that the law and all that it calls make is longer than what came in: it says more and counts as full. Else prove '..UptoSaid'. A law counts once. -/
mutual
def uptoBulk {H : Type} : DataW H → Nat
  | .lit (.string bytes) => bytes.length + 1
  | .lit _ => 1
  | .nil => 1
  | .ptr d => uptoBulk d + 1
  | .slice elems spare => uptoBulkAll elems + uptoBulkAll spare + 1
  | .agg parts => uptoBulkAll parts + 1
  | .iface _ d => uptoBulk d + 1
  | .map entries => uptoBulkEntries entries + 1
  | .held _ => 1
def uptoBulkAll {H : Type} : List (DataW H) → Nat
  | [] => 0
  | d :: r => uptoBulk d + uptoBulkAll r
def uptoBulkEntries {H : Type} : List (Lit × DataW H) → Nat
  | [] => 0
  | x :: r => uptoBulkEntry x + uptoBulkEntries r
def uptoBulkEntry {H : Type} : Lit × DataW H → Nat
  | (.string bytes, d) => bytes.length + uptoBulk d + 1
  | (_, d) => uptoBulk d + 1
 end
def uptoSmall : (H : Type) → List (DataW H) → Bool := fun _ ds => decide (uptoBulkAll ds ≤ 1048576)
def OpenSpec.upto (s : _root_.Go.ChangeSpec) : _root_.Go.OpenSpec := { _root_.Go.OpenSpec.ofChange s with cond := some uptoSmall }

/-- 'drydocklaw12.IsaTells', WHERE WHAT IT READS IS OF BULK AT MOST 1048576: true; the input reads as it did. -/
def isaTellsUptoRow : OpenClaim := { program := "ytkceojfgpmjhhaa", sum := "edb4150995969f9dc83830d8a145fe6a4cbde2fd4e1237b74b027ef57a9ff1e6", func := "drydock/drydocklaw12.IsaTells", spec := "isaTells", apart := false, narrowed := true }
def IsaTellsUptoSaid : Prop := isaTellsUptoRow.holds Try.pinned (OpenSpec.upto isaTellsSpec)

/-- 'drydocklaw12.IsaBack', WHERE WHAT IT READS IS OF BULK AT MOST 1048576: true; the input reads as it did. -/
def isaBackUptoRow : OpenClaim := { program := "ytkceojfgpmjhhaa", sum := "edb4150995969f9dc83830d8a145fe6a4cbde2fd4e1237b74b027ef57a9ff1e6", func := "drydock/drydocklaw12.IsaBack", spec := "isaBack", apart := false, narrowed := true }
def IsaBackUptoSaid : Prop := isaBackUptoRow.holds Try.pinned (OpenSpec.upto isaBackSpec)

/-- 'drydocklaw12.IsaCodes', WHERE WHAT IT READS IS OF BULK AT MOST 1048576: true; the input reads as it did. -/
def isaCodesUptoRow : OpenClaim := { program := "ytkceojfgpmjhhaa", sum := "edb4150995969f9dc83830d8a145fe6a4cbde2fd4e1237b74b027ef57a9ff1e6", func := "drydock/drydocklaw12.IsaCodes", spec := "isaCodes", apart := false, narrowed := true }
def IsaCodesUptoSaid : Prop := isaCodesUptoRow.holds Try.pinned (OpenSpec.upto isaCodesSpec)

/-- 'drydocklaw12.IsaWords', WHERE WHAT IT READS IS OF BULK AT MOST 1048576: true; the input reads as it did. -/
def isaWordsUptoRow : OpenClaim := { program := "ytkceojfgpmjhhaa", sum := "edb4150995969f9dc83830d8a145fe6a4cbde2fd4e1237b74b027ef57a9ff1e6", func := "drydock/drydocklaw12.IsaWords", spec := "isaWords", apart := false, narrowed := true }
def IsaWordsUptoSaid : Prop := isaWordsUptoRow.holds Try.pinned (OpenSpec.upto isaWordsSpec)

/-- 'drydocklaw12.IsaBits', WHERE WHAT IT READS IS OF BULK AT MOST 1048576: true; the input reads as it did. -/
def isaBitsUptoRow : OpenClaim := { program := "ytkceojfgpmjhhaa", sum := "edb4150995969f9dc83830d8a145fe6a4cbde2fd4e1237b74b027ef57a9ff1e6", func := "drydock/drydocklaw12.IsaBits", spec := "isaBits", apart := false, narrowed := true }
def IsaBitsUptoSaid : Prop := isaBitsUptoRow.holds Try.pinned (OpenSpec.upto isaBitsSpec)

/-- 'drydocklaw12.IsaFields', WHERE WHAT IT READS IS OF BULK AT MOST 1048576: true; the input reads as it did. -/
def isaFieldsUptoRow : OpenClaim := { program := "ytkceojfgpmjhhaa", sum := "edb4150995969f9dc83830d8a145fe6a4cbde2fd4e1237b74b027ef57a9ff1e6", func := "drydock/drydocklaw12.IsaFields", spec := "isaFields", apart := false, narrowed := true }
def IsaFieldsUptoSaid : Prop := isaFieldsUptoRow.holds Try.pinned (OpenSpec.upto isaFieldsSpec)

end Rows
end Go.Proofs.Ytkceojfgpmjhhaa
