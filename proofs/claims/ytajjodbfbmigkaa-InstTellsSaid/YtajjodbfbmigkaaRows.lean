/-
  No cell of these rows narrows 'for every input' (looked for: loops, veiled, ifaces, maps, wideKeys, modest, calm, conditions, laid).
  DERIVED. THE GIVEN ROWS OF THIS SEAT. 6 by the template 'for every input the law returns true; each argument reads behind the call as it read before'; 0 by the template 'total and deterministic' (their statements: YtajjodbfbmigkaaTotals.lean).
  GIVEN WITH THE SEED: the statements are not yours to turn. If you find one false, say at which input.
  Laid BY PROGRAM, IN A SANDBOX (cutbox-rows.mjs): the forced cells as the released guide's own fill.sh prints them over the translation 15990daf2872e36c… (all of the seat's roots in one cut). By AI agents, Wed Nov 11 2026. No macro, syntax, notation, axiom, sorry.
-/
import Derived.Test.YtajjodbfbmigkaaChecked
import GoSem.Claim
import GoSem.ClaimJoined
import GoSem.ClaimMapViews
import Derived.JoinedTies
import Derived.KernelRfl
namespace Go.Proofs.Ytajjodbfbmigkaa
/- THE CELL 'sum', in the pinned program and in every row, IS THE sha256 OF THE DUMP (.gsa) THAT YtajjodbfbmigkaaProg.lean LOADS. Nothing in Lean hashes anything: it is a label: what it is worth is what the hold of that sum in a sandbox is worth. -/
noncomputable def Try.pinned : Pinned := { name := "ytajjodbfbmigkaa", sum := "15990daf2872e36ccad0d02af580698df60e08b59da52ac6d0751f1e7a494f7f", checked := Try.checked }
namespace Rows
def none {H : Type} : Left H := { results := [], args := [] }

/-- 'drydocklaw02.InstTells': WHATEVER THE INPUT: true; the input reads as it did. -/
def instTellsSpec : ChangeSpec := { name := "instTells", fn := fun _ => fun
  | [d1, d2] => { results := [.lit (.bool true)], args := [d1, d2] }
  | _ => none }
def instTellsRow : OpenClaim := { program := "ytajjodbfbmigkaa", sum := "15990daf2872e36ccad0d02af580698df60e08b59da52ac6d0751f1e7a494f7f", func := "drydock/drydocklaw02.InstTells", spec := "instTells", unfollowed := true, recurses := true, apart := false }
def InstTellsSaid : Prop := instTellsRow.holds Try.pinned (OpenSpec.ofChange instTellsSpec)

/-- ITS FALSE NEIGHBOUR: 'it returns false'. Refute it at one input. -/
def instTellsWrong : ChangeSpec := { name := "instTells", fn := fun _ => fun
  | [d1, d2] => { results := [.lit (.bool false)], args := [d1, d2] }
  | _ => none }
def InstTellsWrongFalsely : Prop := instTellsRow.holds Try.pinned (OpenSpec.ofChange instTellsWrong)

/-- 'drydocklaw02.InstBack': WHATEVER THE INPUT: true; the input reads as it did. -/
def instBackSpec : ChangeSpec := { name := "instBack", fn := fun _ => fun
  | [d1, d2] => { results := [.lit (.bool true)], args := [d1, d2] }
  | _ => none }
def instBackRow : OpenClaim := { program := "ytajjodbfbmigkaa", sum := "15990daf2872e36ccad0d02af580698df60e08b59da52ac6d0751f1e7a494f7f", func := "drydock/drydocklaw02.InstBack", spec := "instBack", unfollowed := true, recurses := true, apart := false }
def InstBackSaid : Prop := instBackRow.holds Try.pinned (OpenSpec.ofChange instBackSpec)

/-- ITS FALSE NEIGHBOUR: 'it returns false'. Refute it at one input. -/
def instBackWrong : ChangeSpec := { name := "instBack", fn := fun _ => fun
  | [d1, d2] => { results := [.lit (.bool false)], args := [d1, d2] }
  | _ => none }
def InstBackWrongFalsely : Prop := instBackRow.holds Try.pinned (OpenSpec.ofChange instBackWrong)

/-- 'drydocklaw02.InstApart': WHATEVER THE INPUT: true; the input reads as it did. -/
def instApartSpec : ChangeSpec := { name := "instApart", fn := fun _ => fun
  | [d1, d2] => { results := [.lit (.bool true)], args := [d1, d2] }
  | _ => none }
def instApartRow : OpenClaim := { program := "ytajjodbfbmigkaa", sum := "15990daf2872e36ccad0d02af580698df60e08b59da52ac6d0751f1e7a494f7f", func := "drydock/drydocklaw02.InstApart", spec := "instApart", unfollowed := true, recurses := true, apart := false }
def InstApartSaid : Prop := instApartRow.holds Try.pinned (OpenSpec.ofChange instApartSpec)

/-- ITS FALSE NEIGHBOUR: 'it returns false'. Refute it at one input. -/
def instApartWrong : ChangeSpec := { name := "instApart", fn := fun _ => fun
  | [d1, d2] => { results := [.lit (.bool false)], args := [d1, d2] }
  | _ => none }
def InstApartWrongFalsely : Prop := instApartRow.holds Try.pinned (OpenSpec.ofChange instApartWrong)

/-- 'drydocklaw02.InstKinds': WHATEVER THE INPUT: true; the input reads as it did. -/
def instKindsSpec : ChangeSpec := { name := "instKinds", fn := fun _ => fun
  | [d] => { results := [.lit (.bool true)], args := [d] }
  | _ => none }
def instKindsRow : OpenClaim := { program := "ytajjodbfbmigkaa", sum := "15990daf2872e36ccad0d02af580698df60e08b59da52ac6d0751f1e7a494f7f", func := "drydock/drydocklaw02.InstKinds", spec := "instKinds", unfollowed := true, recurses := true, apart := false }
def InstKindsSaid : Prop := instKindsRow.holds Try.pinned (OpenSpec.ofChange instKindsSpec)

/-- ITS FALSE NEIGHBOUR: 'it returns false'. Refute it at one input. -/
def instKindsWrong : ChangeSpec := { name := "instKinds", fn := fun _ => fun
  | [d] => { results := [.lit (.bool false)], args := [d] }
  | _ => none }
def InstKindsWrongFalsely : Prop := instKindsRow.holds Try.pinned (OpenSpec.ofChange instKindsWrong)

/-- 'drydocklaw02.InstWrong': WHATEVER THE INPUT: true; the input reads as it did. -/
def instWrongSpec : ChangeSpec := { name := "instWrong", fn := fun _ => fun
  | [d] => { results := [.lit (.bool true)], args := [d] }
  | _ => none }
def instWrongRow : OpenClaim := { program := "ytajjodbfbmigkaa", sum := "15990daf2872e36ccad0d02af580698df60e08b59da52ac6d0751f1e7a494f7f", func := "drydock/drydocklaw02.InstWrong", spec := "instWrong", unfollowed := true, recurses := true, apart := false }
def InstWrongSaid : Prop := instWrongRow.holds Try.pinned (OpenSpec.ofChange instWrongSpec)

/-- ITS FALSE NEIGHBOUR: 'it returns false'. Refute it at one input. -/
def instWrongWrong : ChangeSpec := { name := "instWrong", fn := fun _ => fun
  | [d] => { results := [.lit (.bool false)], args := [d] }
  | _ => none }
def InstWrongWrongFalsely : Prop := instWrongRow.holds Try.pinned (OpenSpec.ofChange instWrongWrong)

/-- 'drydocklaw02.InstFields': WHATEVER THE INPUT: true; the input reads as it did. -/
def instFieldsSpec : ChangeSpec := { name := "instFields", fn := fun _ => fun
  | [d1, d2, d3] => { results := [.lit (.bool true)], args := [d1, d2, d3] }
  | _ => none }
def instFieldsRow : OpenClaim := { program := "ytajjodbfbmigkaa", sum := "15990daf2872e36ccad0d02af580698df60e08b59da52ac6d0751f1e7a494f7f", func := "drydock/drydocklaw02.InstFields", spec := "instFields", unfollowed := true, recurses := true, apart := false }
def InstFieldsSaid : Prop := instFieldsRow.holds Try.pinned (OpenSpec.ofChange instFieldsSpec)

/-- ITS FALSE NEIGHBOUR: 'it returns false'. Refute it at one input. -/
def instFieldsWrong : ChangeSpec := { name := "instFields", fn := fun _ => fun
  | [d1, d2, d3] => { results := [.lit (.bool false)], args := [d1, d2, d3] }
  | _ => none }
def InstFieldsWrongFalsely : Prop := instFieldsRow.holds Try.pinned (OpenSpec.ofChange instFieldsWrong)

/- THE SECOND FORM. 'bulk': how many values and letters a reading holds, each counted each time it is reached (what is shared counts as often as it is met; a slice's spare places count too). A statement '..UptoSaid' is the law's where the arguments, and the package variables that the reading takes, are together of bulk at most 1048576: NARROWER than '..Said'. Prove '..Said' where nothing that the law and all that it calls make is longer than what came in: it says more and counts as full. Else prove '..UptoSaid'. A law counts once. -/
mutual
def uptoBulk {H : Type} : DataW H → Nat
  | .lit (.string bytes) => bytes.length + 1
  | .lit _ => 1
  | .nil => 1
  | .ptr d => uptoBulk d + 1
  | .slice elems spare => uptoBulkAll elems + uptoBulkAll spare + 1
  | .agg parts => uptoBulkAll parts + 1
  | .iface _ d => uptoBulk d + 1
  | .map entries => uptoBulkEntries entries + 1
  | .held _ => 1
def uptoBulkAll {H : Type} : List (DataW H) → Nat
  | [] => 0
  | d :: r => uptoBulk d + uptoBulkAll r
def uptoBulkEntries {H : Type} : List (Lit × DataW H) → Nat
  | [] => 0
  | x :: r => uptoBulkEntry x + uptoBulkEntries r
def uptoBulkEntry {H : Type} : Lit × DataW H → Nat
  | (.string bytes, d) => bytes.length + uptoBulk d + 1
  | (_, d) => uptoBulk d + 1
 end
def uptoSmall : (H : Type) → List (DataW H) → Bool := fun _ ds => decide (uptoBulkAll ds ≤ 1048576)
def OpenSpec.upto (s : _root_.Go.ChangeSpec) : _root_.Go.OpenSpec := { _root_.Go.OpenSpec.ofChange s with cond := some uptoSmall }

/-- 'drydocklaw02.InstTells', WHERE WHAT IT READS IS OF BULK AT MOST 1048576: true; the input reads as it did. -/
def instTellsUptoRow : OpenClaim := { program := "ytajjodbfbmigkaa", sum := "15990daf2872e36ccad0d02af580698df60e08b59da52ac6d0751f1e7a494f7f", func := "drydock/drydocklaw02.InstTells", spec := "instTells", unfollowed := true, recurses := true, apart := false, narrowed := true }
def InstTellsUptoSaid : Prop := instTellsUptoRow.holds Try.pinned (OpenSpec.upto instTellsSpec)

/-- 'drydocklaw02.InstBack', WHERE WHAT IT READS IS OF BULK AT MOST 1048576: true; the input reads as it did. -/
def instBackUptoRow : OpenClaim := { program := "ytajjodbfbmigkaa", sum := "15990daf2872e36ccad0d02af580698df60e08b59da52ac6d0751f1e7a494f7f", func := "drydock/drydocklaw02.InstBack", spec := "instBack", unfollowed := true, recurses := true, apart := false, narrowed := true }
def InstBackUptoSaid : Prop := instBackUptoRow.holds Try.pinned (OpenSpec.upto instBackSpec)

/-- 'drydocklaw02.InstApart', WHERE WHAT IT READS IS OF BULK AT MOST 1048576: true; the input reads as it did. -/
def instApartUptoRow : OpenClaim := { program := "ytajjodbfbmigkaa", sum := "15990daf2872e36ccad0d02af580698df60e08b59da52ac6d0751f1e7a494f7f", func := "drydock/drydocklaw02.InstApart", spec := "instApart", unfollowed := true, recurses := true, apart := false, narrowed := true }
def InstApartUptoSaid : Prop := instApartUptoRow.holds Try.pinned (OpenSpec.upto instApartSpec)

/-- 'drydocklaw02.InstKinds', WHERE WHAT IT READS IS OF BULK AT MOST 1048576: true; the input reads as it did. -/
def instKindsUptoRow : OpenClaim := { program := "ytajjodbfbmigkaa", sum := "15990daf2872e36ccad0d02af580698df60e08b59da52ac6d0751f1e7a494f7f", func := "drydock/drydocklaw02.InstKinds", spec := "instKinds", unfollowed := true, recurses := true, apart := false, narrowed := true }
def InstKindsUptoSaid : Prop := instKindsUptoRow.holds Try.pinned (OpenSpec.upto instKindsSpec)

/-- 'drydocklaw02.InstWrong', WHERE WHAT IT READS IS OF BULK AT MOST 1048576: true; the input reads as it did. -/
def instWrongUptoRow : OpenClaim := { program := "ytajjodbfbmigkaa", sum := "15990daf2872e36ccad0d02af580698df60e08b59da52ac6d0751f1e7a494f7f", func := "drydock/drydocklaw02.InstWrong", spec := "instWrong", unfollowed := true, recurses := true, apart := false, narrowed := true }
def InstWrongUptoSaid : Prop := instWrongUptoRow.holds Try.pinned (OpenSpec.upto instWrongSpec)

/-- 'drydocklaw02.InstFields', WHERE WHAT IT READS IS OF BULK AT MOST 1048576: true; the input reads as it did. -/
def instFieldsUptoRow : OpenClaim := { program := "ytajjodbfbmigkaa", sum := "15990daf2872e36ccad0d02af580698df60e08b59da52ac6d0751f1e7a494f7f", func := "drydock/drydocklaw02.InstFields", spec := "instFields", unfollowed := true, recurses := true, apart := false, narrowed := true }
def InstFieldsUptoSaid : Prop := instFieldsUptoRow.holds Try.pinned (OpenSpec.upto instFieldsSpec)

end Rows
end Go.Proofs.Ytajjodbfbmigkaa
