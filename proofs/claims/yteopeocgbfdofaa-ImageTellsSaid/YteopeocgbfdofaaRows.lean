/-
  No cell of these rows narrows 'for every input' (looked for: loops, veiled, ifaces, maps, wideKeys, modest, calm, conditions, laid).
  DERIVED. THE GIVEN ROWS OF THIS SEAT. 4 by the template 'for every input the law returns true; each argument reads behind the call as it read before'; 0 by the template 'total and deterministic' (their statements: YteopeocgbfdofaaTotals.lean).
  GIVEN WITH THE SEED: the statements are not yours to turn. If you find one false, say at which input.
  Laid BY PROGRAM, IN A SANDBOX (cutbox-rows.mjs): the forced cells as the released guide's own fill.sh prints them over the translation eda5e3c95add6869… (all of the seat's roots in one cut). By AI agents, Wed Nov 11 2026. No macro, syntax, notation, axiom, sorry.
-/
import Derived.Test.YteopeocgbfdofaaChecked
import GoSem.Claim
import GoSem.ClaimJoined
import GoSem.ClaimMapViews
import Derived.JoinedTies
import Derived.KernelRfl
namespace Go.Proofs.Yteopeocgbfdofaa
/- THE CELL 'sum', in the pinned program and in every row, IS THE sha256 OF THE DUMP (.gsa) THAT YteopeocgbfdofaaProg.lean LOADS. Nothing in Lean hashes anything: it is a label: what it is worth is what the hold of that sum in a sandbox is worth. -/
noncomputable def Try.pinned : Pinned := { name := "yteopeocgbfdofaa", sum := "eda5e3c95add68699607d56459d4f82b6a1f4ec31e1244fe8489e79ee4a68bc9", checked := Try.checked }
namespace Rows
def none {H : Type} : Left H := { results := [], args := [] }

/-- 'drydocklaw14.ImageInside': WHATEVER THE INPUT: true; the input reads as it did. -/
def imageInsideSpec : ChangeSpec := { name := "imageInside", fn := fun _ => fun
  | [d1, d2] => { results := [.lit (.bool true)], args := [d1, d2] }
  | _ => none }
def imageInsideRow : OpenClaim := { program := "yteopeocgbfdofaa", sum := "eda5e3c95add68699607d56459d4f82b6a1f4ec31e1244fe8489e79ee4a68bc9", func := "drydock/drydocklaw14.ImageInside", spec := "imageInside", unfollowed := true, recurses := true, apart := false }
def ImageInsideSaid : Prop := imageInsideRow.holds Try.pinned (OpenSpec.ofChange imageInsideSpec)

/-- ITS FALSE NEIGHBOUR: 'it returns false'. Refute it at one input. -/
def imageInsideWrong : ChangeSpec := { name := "imageInside", fn := fun _ => fun
  | [d1, d2] => { results := [.lit (.bool false)], args := [d1, d2] }
  | _ => none }
def ImageInsideWrongFalsely : Prop := imageInsideRow.holds Try.pinned (OpenSpec.ofChange imageInsideWrong)

/-- 'drydocklaw14.ImageMoves': WHATEVER THE INPUT: true; the input reads as it did. -/
def imageMovesSpec : ChangeSpec := { name := "imageMoves", fn := fun _ => fun
  | [d1, d2, d3] => { results := [.lit (.bool true)], args := [d1, d2, d3] }
  | _ => none }
def imageMovesRow : OpenClaim := { program := "yteopeocgbfdofaa", sum := "eda5e3c95add68699607d56459d4f82b6a1f4ec31e1244fe8489e79ee4a68bc9", func := "drydock/drydocklaw14.ImageMoves", spec := "imageMoves", unfollowed := true, recurses := true, apart := false }
def ImageMovesSaid : Prop := imageMovesRow.holds Try.pinned (OpenSpec.ofChange imageMovesSpec)

/-- ITS FALSE NEIGHBOUR: 'it returns false'. Refute it at one input. -/
def imageMovesWrong : ChangeSpec := { name := "imageMoves", fn := fun _ => fun
  | [d1, d2, d3] => { results := [.lit (.bool false)], args := [d1, d2, d3] }
  | _ => none }
def ImageMovesWrongFalsely : Prop := imageMovesRow.holds Try.pinned (OpenSpec.ofChange imageMovesWrong)

/-- 'drydocklaw14.ImageTurn': WHATEVER THE INPUT: true; the input reads as it did. -/
def imageTurnSpec : ChangeSpec := { name := "imageTurn", fn := fun _ => fun
  | [d1, d2, d3, d4, d5] => { results := [.lit (.bool true)], args := [d1, d2, d3, d4, d5] }
  | _ => none }
def imageTurnRow : OpenClaim := { program := "yteopeocgbfdofaa", sum := "eda5e3c95add68699607d56459d4f82b6a1f4ec31e1244fe8489e79ee4a68bc9", func := "drydock/drydocklaw14.ImageTurn", spec := "imageTurn", unfollowed := true, recurses := true, apart := false }
def ImageTurnSaid : Prop := imageTurnRow.holds Try.pinned (OpenSpec.ofChange imageTurnSpec)

/-- ITS FALSE NEIGHBOUR: 'it returns false'. Refute it at one input. -/
def imageTurnWrong : ChangeSpec := { name := "imageTurn", fn := fun _ => fun
  | [d1, d2, d3, d4, d5] => { results := [.lit (.bool false)], args := [d1, d2, d3, d4, d5] }
  | _ => none }
def ImageTurnWrongFalsely : Prop := imageTurnRow.holds Try.pinned (OpenSpec.ofChange imageTurnWrong)

/-- 'drydocklaw14.ImageTells': WHATEVER THE INPUT: true; the input reads as it did. -/
def imageTellsSpec : ChangeSpec := { name := "imageTells", fn := fun _ => fun
  | [d1, d2, d3, d4, d5, d6] => { results := [.lit (.bool true)], args := [d1, d2, d3, d4, d5, d6] }
  | _ => none }
def imageTellsRow : OpenClaim := { program := "yteopeocgbfdofaa", sum := "eda5e3c95add68699607d56459d4f82b6a1f4ec31e1244fe8489e79ee4a68bc9", func := "drydock/drydocklaw14.ImageTells", spec := "imageTells", unfollowed := true, recurses := true, apart := false }
def ImageTellsSaid : Prop := imageTellsRow.holds Try.pinned (OpenSpec.ofChange imageTellsSpec)

/-- ITS FALSE NEIGHBOUR: 'it returns false'. Refute it at one input. -/
def imageTellsWrong : ChangeSpec := { name := "imageTells", fn := fun _ => fun
  | [d1, d2, d3, d4, d5, d6] => { results := [.lit (.bool false)], args := [d1, d2, d3, d4, d5, d6] }
  | _ => none }
def ImageTellsWrongFalsely : Prop := imageTellsRow.holds Try.pinned (OpenSpec.ofChange imageTellsWrong)

/- THE SECOND FORM. 'bulk': how many values and letters a reading holds, each counted each time it is reached (what is shared counts as often as it is met; a slice's spare places count too). A statement '..UptoSaid' is the law's where the arguments, and the package variables that the reading takes, are together of bulk at most 1048576: NARROWER than '..Said'. Prove '..Said' where nothing that the law and all that it calls make is longer than what came in: it says more and counts as full. Else prove '..UptoSaid'. A law counts once. -/
mutual
def uptoBulk {H : Type} : DataW H → Nat
  | .lit (.string bytes) => bytes.length + 1
  | .lit _ => 1
  | .nil => 1
  | .ptr d => uptoBulk d + 1
  | .slice elems spare => uptoBulkAll elems + uptoBulkAll spare + 1
  | .agg parts => uptoBulkAll parts + 1
  | .iface _ d => uptoBulk d + 1
  | .map entries => uptoBulkEntries entries + 1
  | .held _ => 1
def uptoBulkAll {H : Type} : List (DataW H) → Nat
  | [] => 0
  | d :: r => uptoBulk d + uptoBulkAll r
def uptoBulkEntries {H : Type} : List (Lit × DataW H) → Nat
  | [] => 0
  | x :: r => uptoBulkEntry x + uptoBulkEntries r
def uptoBulkEntry {H : Type} : Lit × DataW H → Nat
  | (.string bytes, d) => bytes.length + uptoBulk d + 1
  | (_, d) => uptoBulk d + 1
 end
def uptoSmall : (H : Type) → List (DataW H) → Bool := fun _ ds => decide (uptoBulkAll ds ≤ 1048576)
def OpenSpec.upto (s : _root_.Go.ChangeSpec) : _root_.Go.OpenSpec := { _root_.Go.OpenSpec.ofChange s with cond := some uptoSmall }

/-- 'drydocklaw14.ImageInside', WHERE WHAT IT READS IS OF BULK AT MOST 1048576: true; the input reads as it did. -/
def imageInsideUptoRow : OpenClaim := { program := "yteopeocgbfdofaa", sum := "eda5e3c95add68699607d56459d4f82b6a1f4ec31e1244fe8489e79ee4a68bc9", func := "drydock/drydocklaw14.ImageInside", spec := "imageInside", unfollowed := true, recurses := true, apart := false, narrowed := true }
def ImageInsideUptoSaid : Prop := imageInsideUptoRow.holds Try.pinned (OpenSpec.upto imageInsideSpec)

/-- 'drydocklaw14.ImageMoves', WHERE WHAT IT READS IS OF BULK AT MOST 1048576: true; the input reads as it did. -/
def imageMovesUptoRow : OpenClaim := { program := "yteopeocgbfdofaa", sum := "eda5e3c95add68699607d56459d4f82b6a1f4ec31e1244fe8489e79ee4a68bc9", func := "drydock/drydocklaw14.ImageMoves", spec := "imageMoves", unfollowed := true, recurses := true, apart := false, narrowed := true }
def ImageMovesUptoSaid : Prop := imageMovesUptoRow.holds Try.pinned (OpenSpec.upto imageMovesSpec)

/-- 'drydocklaw14.ImageTurn', WHERE WHAT IT READS IS OF BULK AT MOST 1048576: true; the input reads as it did. -/
def imageTurnUptoRow : OpenClaim := { program := "yteopeocgbfdofaa", sum := "eda5e3c95add68699607d56459d4f82b6a1f4ec31e1244fe8489e79ee4a68bc9", func := "drydock/drydocklaw14.ImageTurn", spec := "imageTurn", unfollowed := true, recurses := true, apart := false, narrowed := true }
def ImageTurnUptoSaid : Prop := imageTurnUptoRow.holds Try.pinned (OpenSpec.upto imageTurnSpec)

/-- 'drydocklaw14.ImageTells', WHERE WHAT IT READS IS OF BULK AT MOST 1048576: true; the input reads as it did. -/
def imageTellsUptoRow : OpenClaim := { program := "yteopeocgbfdofaa", sum := "eda5e3c95add68699607d56459d4f82b6a1f4ec31e1244fe8489e79ee4a68bc9", func := "drydock/drydocklaw14.ImageTells", spec := "imageTells", unfollowed := true, recurses := true, apart := false, narrowed := true }
def ImageTellsUptoSaid : Prop := imageTellsUptoRow.holds Try.pinned (OpenSpec.upto imageTellsSpec)

end Rows
end Go.Proofs.Yteopeocgbfdofaa
