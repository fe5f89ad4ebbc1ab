/-
  No cell of these rows narrows 'for every input' (looked for: loops, veiled, ifaces, maps, wideKeys, modest, calm, conditions, laid).
  DERIVED. THE GIVEN ROWS OF THIS SEAT. 10 by the template 'for every input the law returns true; each argument reads behind the call as it read before'; 0 by the template 'total and deterministic' (their statements: YtcmigmldecacpaaTotals.lean).
  GIVEN WITH THE SEED: the statements are not yours to turn. If you find one false, say at which input.
  Laid BY PROGRAM, IN A SANDBOX (cutbox-rows.mjs): the forced cells as the released guide's own fill.sh prints them over the translation ffb85931d2368dd1… (all of the seat's roots in one cut). By AI agents, Wed Nov 11 2026. No macro, syntax, notation, axiom, sorry.
-/
import Derived.Test.YtcmigmldecacpaaChecked
import GoSem.Claim
import GoSem.ClaimJoined
import GoSem.ClaimMapViews
import Derived.JoinedTies
import Derived.KernelRfl
namespace Go.Proofs.Ytcmigmldecacpaa
/- THE CELL 'sum', in the pinned program and in every row, IS THE sha256 OF THE DUMP (.gsa) THAT YtcmigmldecacpaaProg.lean LOADS. Nothing in Lean hashes anything: it is a label: what it is worth is what the hold of that sum in a sandbox is worth. -/
noncomputable def Try.pinned : Pinned := { name := "ytcmigmldecacpaa", sum := "ffb85931d2368dd1a75ca22769377b896b0c363819396d41c22ea4a3ca28dd3d", checked := Try.checked }
namespace Rows
def none {H : Type} : Left H := { results := [], args := [] }

/-- 'geyserlaw12.ReplayBoards': WHATEVER THE INPUT: true; the input reads as it did. -/
def replayBoardsSpec : ChangeSpec := { name := "replayBoards", fn := fun _ => fun
  | [d1, d2, d3, d4, d5] => { results := [.lit (.bool true)], args := [d1, d2, d3, d4, d5] }
  | _ => none }
def replayBoardsRow : OpenClaim := { program := "ytcmigmldecacpaa", sum := "ffb85931d2368dd1a75ca22769377b896b0c363819396d41c22ea4a3ca28dd3d", func := "geyser/geyserlaw12.ReplayBoards", spec := "replayBoards", apart := false }
def ReplayBoardsSaid : Prop := replayBoardsRow.holds Try.pinned (OpenSpec.ofChange replayBoardsSpec)

/-- ITS FALSE NEIGHBOUR: 'it returns false'. Refute it at one input. -/
def replayBoardsWrong : ChangeSpec := { name := "replayBoards", fn := fun _ => fun
  | [d1, d2, d3, d4, d5] => { results := [.lit (.bool false)], args := [d1, d2, d3, d4, d5] }
  | _ => none }
def ReplayBoardsWrongFalsely : Prop := replayBoardsRow.holds Try.pinned (OpenSpec.ofChange replayBoardsWrong)

/-- 'geyserlaw12.ReplayPlays': WHATEVER THE INPUT: true; the input reads as it did. -/
def replayPlaysSpec : ChangeSpec := { name := "replayPlays", fn := fun _ => fun
  | [d1, d2] => { results := [.lit (.bool true)], args := [d1, d2] }
  | _ => none }
def replayPlaysRow : OpenClaim := { program := "ytcmigmldecacpaa", sum := "ffb85931d2368dd1a75ca22769377b896b0c363819396d41c22ea4a3ca28dd3d", func := "geyser/geyserlaw12.ReplayPlays", spec := "replayPlays", unfollowed := true, recurses := true, apart := false }
def ReplayPlaysSaid : Prop := replayPlaysRow.holds Try.pinned (OpenSpec.ofChange replayPlaysSpec)

/-- ITS FALSE NEIGHBOUR: 'it returns false'. Refute it at one input. -/
def replayPlaysWrong : ChangeSpec := { name := "replayPlays", fn := fun _ => fun
  | [d1, d2] => { results := [.lit (.bool false)], args := [d1, d2] }
  | _ => none }
def ReplayPlaysWrongFalsely : Prop := replayPlaysRow.holds Try.pinned (OpenSpec.ofChange replayPlaysWrong)

/-- 'geyserlaw05.DenseRanks': WHATEVER THE INPUT: true; the input reads as it did. -/
def denseRanksSpec : ChangeSpec := { name := "denseRanks", fn := fun _ => fun
  | [d] => { results := [.lit (.bool true)], args := [d] }
  | _ => none }
def denseRanksRow : OpenClaim := { program := "ytcmigmldecacpaa", sum := "ffb85931d2368dd1a75ca22769377b896b0c363819396d41c22ea4a3ca28dd3d", func := "geyser/geyserlaw05.DenseRanks", spec := "denseRanks", apart := false }
def DenseRanksSaid : Prop := denseRanksRow.holds Try.pinned (OpenSpec.ofChange denseRanksSpec)

/-- ITS FALSE NEIGHBOUR: 'it returns false'. Refute it at one input. -/
def denseRanksWrong : ChangeSpec := { name := "denseRanks", fn := fun _ => fun
  | [d] => { results := [.lit (.bool false)], args := [d] }
  | _ => none }
def DenseRanksWrongFalsely : Prop := denseRanksRow.holds Try.pinned (OpenSpec.ofChange denseRanksWrong)

/-- 'geyserlaw07.PrecodeParities': WHATEVER THE INPUT: true; the input reads as it did. -/
def precodeParitiesSpec : ChangeSpec := { name := "precodeParities", fn := fun _ => fun
  | [d1, d2] => { results := [.lit (.bool true)], args := [d1, d2] }
  | _ => none }
def precodeParitiesRow : OpenClaim := { program := "ytcmigmldecacpaa", sum := "ffb85931d2368dd1a75ca22769377b896b0c363819396d41c22ea4a3ca28dd3d", func := "geyser/geyserlaw07.PrecodeParities", spec := "precodeParities", apart := false }
def PrecodeParitiesSaid : Prop := precodeParitiesRow.holds Try.pinned (OpenSpec.ofChange precodeParitiesSpec)

/-- ITS FALSE NEIGHBOUR: 'it returns false'. Refute it at one input. -/
def precodeParitiesWrong : ChangeSpec := { name := "precodeParities", fn := fun _ => fun
  | [d1, d2] => { results := [.lit (.bool false)], args := [d1, d2] }
  | _ => none }
def PrecodeParitiesWrongFalsely : Prop := precodeParitiesRow.holds Try.pinned (OpenSpec.ofChange precodeParitiesWrong)

/-- 'geyserlaw10.PeelParts': WHATEVER THE INPUT: true; the input reads as it did. -/
def peelPartsSpec : ChangeSpec := { name := "peelParts", fn := fun _ => fun
  | [d1, d2] => { results := [.lit (.bool true)], args := [d1, d2] }
  | _ => none }
def peelPartsRow : OpenClaim := { program := "ytcmigmldecacpaa", sum := "ffb85931d2368dd1a75ca22769377b896b0c363819396d41c22ea4a3ca28dd3d", func := "geyser/geyserlaw10.PeelParts", spec := "peelParts", unfollowed := true, recurses := true, apart := false }
def PeelPartsSaid : Prop := peelPartsRow.holds Try.pinned (OpenSpec.ofChange peelPartsSpec)

/-- ITS FALSE NEIGHBOUR: 'it returns false'. Refute it at one input. -/
def peelPartsWrong : ChangeSpec := { name := "peelParts", fn := fun _ => fun
  | [d1, d2] => { results := [.lit (.bool false)], args := [d1, d2] }
  | _ => none }
def PeelPartsWrongFalsely : Prop := peelPartsRow.holds Try.pinned (OpenSpec.ofChange peelPartsWrong)

/-- 'geyserlaw11.SolveTells': WHATEVER THE INPUT: true; the input reads as it did. -/
def solveTellsSpec : ChangeSpec := { name := "solveTells", fn := fun _ => fun
  | [d1, d2] => { results := [.lit (.bool true)], args := [d1, d2] }
  | _ => none }
def solveTellsRow : OpenClaim := { program := "ytcmigmldecacpaa", sum := "ffb85931d2368dd1a75ca22769377b896b0c363819396d41c22ea4a3ca28dd3d", func := "geyser/geyserlaw11.SolveTells", spec := "solveTells", unfollowed := true, recurses := true, apart := false }
def SolveTellsSaid : Prop := solveTellsRow.holds Try.pinned (OpenSpec.ofChange solveTellsSpec)

/-- ITS FALSE NEIGHBOUR: 'it returns false'. Refute it at one input. -/
def solveTellsWrong : ChangeSpec := { name := "solveTells", fn := fun _ => fun
  | [d1, d2] => { results := [.lit (.bool false)], args := [d1, d2] }
  | _ => none }
def SolveTellsWrongFalsely : Prop := solveTellsRow.holds Try.pinned (OpenSpec.ofChange solveTellsWrong)

/-- 'geyserlaw11.SolveRanks': WHATEVER THE INPUT: true; the input reads as it did. -/
def solveRanksSpec : ChangeSpec := { name := "solveRanks", fn := fun _ => fun
  | [d1, d2] => { results := [.lit (.bool true)], args := [d1, d2] }
  | _ => none }
def solveRanksRow : OpenClaim := { program := "ytcmigmldecacpaa", sum := "ffb85931d2368dd1a75ca22769377b896b0c363819396d41c22ea4a3ca28dd3d", func := "geyser/geyserlaw11.SolveRanks", spec := "solveRanks", unfollowed := true, recurses := true, apart := false }
def SolveRanksSaid : Prop := solveRanksRow.holds Try.pinned (OpenSpec.ofChange solveRanksSpec)

/-- ITS FALSE NEIGHBOUR: 'it returns false'. Refute it at one input. -/
def solveRanksWrong : ChangeSpec := { name := "solveRanks", fn := fun _ => fun
  | [d1, d2] => { results := [.lit (.bool false)], args := [d1, d2] }
  | _ => none }
def SolveRanksWrongFalsely : Prop := solveRanksRow.holds Try.pinned (OpenSpec.ofChange solveRanksWrong)

/-- 'geyserlaw08.RowCells': WHATEVER THE INPUT: true; the input reads as it did. -/
def rowCellsSpec : ChangeSpec := { name := "rowCells", fn := fun _ => fun
  | [d] => { results := [.lit (.bool true)], args := [d] }
  | _ => none }
def rowCellsRow : OpenClaim := { program := "ytcmigmldecacpaa", sum := "ffb85931d2368dd1a75ca22769377b896b0c363819396d41c22ea4a3ca28dd3d", func := "geyser/geyserlaw08.RowCells", spec := "rowCells", unfollowed := true, recurses := true, apart := false }
def RowCellsSaid : Prop := rowCellsRow.holds Try.pinned (OpenSpec.ofChange rowCellsSpec)

/-- ITS FALSE NEIGHBOUR: 'it returns false'. Refute it at one input. -/
def rowCellsWrong : ChangeSpec := { name := "rowCells", fn := fun _ => fun
  | [d] => { results := [.lit (.bool false)], args := [d] }
  | _ => none }
def RowCellsWrongFalsely : Prop := rowCellsRow.holds Try.pinned (OpenSpec.ofChange rowCellsWrong)

/-- 'geyserlaw09.EncodeSums': WHATEVER THE INPUT: true; the input reads as it did. -/
def encodeSumsSpec : ChangeSpec := { name := "encodeSums", fn := fun _ => fun
  | [d1, d2, d3, d4, d5] => { results := [.lit (.bool true)], args := [d1, d2, d3, d4, d5] }
  | _ => none }
def encodeSumsRow : OpenClaim := { program := "ytcmigmldecacpaa", sum := "ffb85931d2368dd1a75ca22769377b896b0c363819396d41c22ea4a3ca28dd3d", func := "geyser/geyserlaw09.EncodeSums", spec := "encodeSums", unfollowed := true, recurses := true, apart := false }
def EncodeSumsSaid : Prop := encodeSumsRow.holds Try.pinned (OpenSpec.ofChange encodeSumsSpec)

/-- ITS FALSE NEIGHBOUR: 'it returns false'. Refute it at one input. -/
def encodeSumsWrong : ChangeSpec := { name := "encodeSums", fn := fun _ => fun
  | [d1, d2, d3, d4, d5] => { results := [.lit (.bool false)], args := [d1, d2, d3, d4, d5] }
  | _ => none }
def EncodeSumsWrongFalsely : Prop := encodeSumsRow.holds Try.pinned (OpenSpec.ofChange encodeSumsWrong)

/-- 'geyserlaw09.EncodeMakes': WHATEVER THE INPUT: true; the input reads as it did. -/
def encodeMakesSpec : ChangeSpec := { name := "encodeMakes", fn := fun _ => fun
  | [d1, d2, d3] => { results := [.lit (.bool true)], args := [d1, d2, d3] }
  | _ => none }
def encodeMakesRow : OpenClaim := { program := "ytcmigmldecacpaa", sum := "ffb85931d2368dd1a75ca22769377b896b0c363819396d41c22ea4a3ca28dd3d", func := "geyser/geyserlaw09.EncodeMakes", spec := "encodeMakes", unfollowed := true, recurses := true, apart := false }
def EncodeMakesSaid : Prop := encodeMakesRow.holds Try.pinned (OpenSpec.ofChange encodeMakesSpec)

/-- ITS FALSE NEIGHBOUR: 'it returns false'. Refute it at one input. -/
def encodeMakesWrong : ChangeSpec := { name := "encodeMakes", fn := fun _ => fun
  | [d1, d2, d3] => { results := [.lit (.bool false)], args := [d1, d2, d3] }
  | _ => none }
def EncodeMakesWrongFalsely : Prop := encodeMakesRow.holds Try.pinned (OpenSpec.ofChange encodeMakesWrong)

/- THE SECOND FORM. 'bulk': how many values and letters a reading holds, each counted each time it is reached (what is shared counts as often as it is met; a slice's spare places count too). A statement '..UptoSaid' is the law's where the arguments, and the package variables that the reading takes, are together of bulk at most 1048576: NARROWER than '..Said'. Prove '..Said' where nothing that the law and all that it calls make is longer than what came in: it says more and counts as full. Else prove '..UptoSaid'. A law counts once. -/
mutual
def uptoBulk {H : Type} : DataW H → Nat
  | .lit (.string bytes) => bytes.length + 1
  | .lit _ => 1
  | .nil => 1
  | .ptr d => uptoBulk d + 1
  | .slice elems spare => uptoBulkAll elems + uptoBulkAll spare + 1
  | .agg parts => uptoBulkAll parts + 1
  | .iface _ d => uptoBulk d + 1
  | .map entries => uptoBulkEntries entries + 1
  | .held _ => 1
def uptoBulkAll {H : Type} : List (DataW H) → Nat
  | [] => 0
  | d :: r => uptoBulk d + uptoBulkAll r
def uptoBulkEntries {H : Type} : List (Lit × DataW H) → Nat
  | [] => 0
  | x :: r => uptoBulkEntry x + uptoBulkEntries r
def uptoBulkEntry {H : Type} : Lit × DataW H → Nat
  | (.string bytes, d) => bytes.length + uptoBulk d + 1
  | (_, d) => uptoBulk d + 1
 end
def uptoSmall : (H : Type) → List (DataW H) → Bool := fun _ ds => decide (uptoBulkAll ds ≤ 1048576)
def OpenSpec.upto (s : _root_.Go.ChangeSpec) : _root_.Go.OpenSpec := { _root_.Go.OpenSpec.ofChange s with cond := some uptoSmall }

/-- 'geyserlaw12.ReplayBoards', WHERE WHAT IT READS IS OF BULK AT MOST 1048576: true; the input reads as it did. -/
def replayBoardsUptoRow : OpenClaim := { program := "ytcmigmldecacpaa", sum := "ffb85931d2368dd1a75ca22769377b896b0c363819396d41c22ea4a3ca28dd3d", func := "geyser/geyserlaw12.ReplayBoards", spec := "replayBoards", apart := false, narrowed := true }
def ReplayBoardsUptoSaid : Prop := replayBoardsUptoRow.holds Try.pinned (OpenSpec.upto replayBoardsSpec)

/-- 'geyserlaw12.ReplayPlays', WHERE WHAT IT READS IS OF BULK AT MOST 1048576: true; the input reads as it did. -/
def replayPlaysUptoRow : OpenClaim := { program := "ytcmigmldecacpaa", sum := "ffb85931d2368dd1a75ca22769377b896b0c363819396d41c22ea4a3ca28dd3d", func := "geyser/geyserlaw12.ReplayPlays", spec := "replayPlays", unfollowed := true, recurses := true, apart := false, narrowed := true }
def ReplayPlaysUptoSaid : Prop := replayPlaysUptoRow.holds Try.pinned (OpenSpec.upto replayPlaysSpec)

/-- 'geyserlaw05.DenseRanks', WHERE WHAT IT READS IS OF BULK AT MOST 1048576: true; the input reads as it did. -/
def denseRanksUptoRow : OpenClaim := { program := "ytcmigmldecacpaa", sum := "ffb85931d2368dd1a75ca22769377b896b0c363819396d41c22ea4a3ca28dd3d", func := "geyser/geyserlaw05.DenseRanks", spec := "denseRanks", apart := false, narrowed := true }
def DenseRanksUptoSaid : Prop := denseRanksUptoRow.holds Try.pinned (OpenSpec.upto denseRanksSpec)

/-- 'geyserlaw07.PrecodeParities', WHERE WHAT IT READS IS OF BULK AT MOST 1048576: true; the input reads as it did. -/
def precodeParitiesUptoRow : OpenClaim := { program := "ytcmigmldecacpaa", sum := "ffb85931d2368dd1a75ca22769377b896b0c363819396d41c22ea4a3ca28dd3d", func := "geyser/geyserlaw07.PrecodeParities", spec := "precodeParities", apart := false, narrowed := true }
def PrecodeParitiesUptoSaid : Prop := precodeParitiesUptoRow.holds Try.pinned (OpenSpec.upto precodeParitiesSpec)

/-- 'geyserlaw10.PeelParts', WHERE WHAT IT READS IS OF BULK AT MOST 1048576: true; the input reads as it did. -/
def peelPartsUptoRow : OpenClaim := { program := "ytcmigmldecacpaa", sum := "ffb85931d2368dd1a75ca22769377b896b0c363819396d41c22ea4a3ca28dd3d", func := "geyser/geyserlaw10.PeelParts", spec := "peelParts", unfollowed := true, recurses := true, apart := false, narrowed := true }
def PeelPartsUptoSaid : Prop := peelPartsUptoRow.holds Try.pinned (OpenSpec.upto peelPartsSpec)

/-- 'geyserlaw11.SolveTells', WHERE WHAT IT READS IS OF BULK AT MOST 1048576: true; the input reads as it did. -/
def solveTellsUptoRow : OpenClaim := { program := "ytcmigmldecacpaa", sum := "ffb85931d2368dd1a75ca22769377b896b0c363819396d41c22ea4a3ca28dd3d", func := "geyser/geyserlaw11.SolveTells", spec := "solveTells", unfollowed := true, recurses := true, apart := false, narrowed := true }
def SolveTellsUptoSaid : Prop := solveTellsUptoRow.holds Try.pinned (OpenSpec.upto solveTellsSpec)

/-- 'geyserlaw11.SolveRanks', WHERE WHAT IT READS IS OF BULK AT MOST 1048576: true; the input reads as it did. -/
def solveRanksUptoRow : OpenClaim := { program := "ytcmigmldecacpaa", sum := "ffb85931d2368dd1a75ca22769377b896b0c363819396d41c22ea4a3ca28dd3d", func := "geyser/geyserlaw11.SolveRanks", spec := "solveRanks", unfollowed := true, recurses := true, apart := false, narrowed := true }
def SolveRanksUptoSaid : Prop := solveRanksUptoRow.holds Try.pinned (OpenSpec.upto solveRanksSpec)

/-- 'geyserlaw08.RowCells', WHERE WHAT IT READS IS OF BULK AT MOST 1048576: true; the input reads as it did. -/
def rowCellsUptoRow : OpenClaim := { program := "ytcmigmldecacpaa", sum := "ffb85931d2368dd1a75ca22769377b896b0c363819396d41c22ea4a3ca28dd3d", func := "geyser/geyserlaw08.RowCells", spec := "rowCells", unfollowed := true, recurses := true, apart := false, narrowed := true }
def RowCellsUptoSaid : Prop := rowCellsUptoRow.holds Try.pinned (OpenSpec.upto rowCellsSpec)

/-- 'geyserlaw09.EncodeSums', WHERE WHAT IT READS IS OF BULK AT MOST 1048576: true; the input reads as it did. -/
def encodeSumsUptoRow : OpenClaim := { program := "ytcmigmldecacpaa", sum := "ffb85931d2368dd1a75ca22769377b896b0c363819396d41c22ea4a3ca28dd3d", func := "geyser/geyserlaw09.EncodeSums", spec := "encodeSums", unfollowed := true, recurses := true, apart := false, narrowed := true }
def EncodeSumsUptoSaid : Prop := encodeSumsUptoRow.holds Try.pinned (OpenSpec.upto encodeSumsSpec)

/-- 'geyserlaw09.EncodeMakes', WHERE WHAT IT READS IS OF BULK AT MOST 1048576: true; the input reads as it did. -/
def encodeMakesUptoRow : OpenClaim := { program := "ytcmigmldecacpaa", sum := "ffb85931d2368dd1a75ca22769377b896b0c363819396d41c22ea4a3ca28dd3d", func := "geyser/geyserlaw09.EncodeMakes", spec := "encodeMakes", unfollowed := true, recurses := true, apart := false, narrowed := true }
def EncodeMakesUptoSaid : Prop := encodeMakesUptoRow.holds Try.pinned (OpenSpec.upto encodeMakesSpec)

end Rows
end Go.Proofs.Ytcmigmldecacpaa
