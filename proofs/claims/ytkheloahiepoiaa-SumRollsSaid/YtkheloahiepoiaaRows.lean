/-
  No cell of these rows narrows 'for every input' (looked for: loops, veiled, ifaces, maps, wideKeys, modest, calm, conditions, laid).
  DERIVED. THE GIVEN ROWS OF THIS SEAT. 12 by the template 'for every input the law returns true; each argument reads behind the call as it read before'; 0 by the template 'total and deterministic' (their statements: YtkheloahiepoiaaTotals.lean).
  GIVEN WITH THE SEED: the statements are not yours to turn. If you find one false, say at which input.
  Laid BY PROGRAM, IN A SANDBOX (cutbox-rows.mjs): the forced cells as the released guide's own fill.sh prints them over the translation a1491aeae7338243… (all of the seat's roots in one cut). By AI agents, Wed Nov 11 2026. No macro, syntax, notation, axiom, sorry.
-/
import Derived.Test.YtkheloahiepoiaaChecked
import GoSem.Claim
import GoSem.ClaimJoined
import GoSem.ClaimMapViews
import Derived.JoinedTies
import Derived.KernelRfl
namespace Go.Proofs.Ytkheloahiepoiaa
/- THE CELL 'sum', in the pinned program and in every row, IS THE sha256 OF THE DUMP (.gsa) THAT YtkheloahiepoiaaProg.lean LOADS. Nothing in Lean hashes anything: it is a label: what it is worth is what the hold of that sum in a sandbox is worth. -/
noncomputable def Try.pinned : Pinned := { name := "ytkheloahiepoiaa", sum := "a1491aeae733824310d31d1a7d5c28ca625e94a7a13e2c5f65b4129ab36673d9", checked := Try.checked }
namespace Rows
def none {H : Type} : Left H := { results := [], args := [] }

/-- 'geyserlaw16.CutCounts': WHATEVER THE INPUT: true; the input reads as it did. -/
def cutCountsSpec : ChangeSpec := { name := "cutCounts", fn := fun _ => fun
  | [d1, d2] => { results := [.lit (.bool true)], args := [d1, d2] }
  | _ => none }
def cutCountsRow : OpenClaim := { program := "ytkheloahiepoiaa", sum := "a1491aeae733824310d31d1a7d5c28ca625e94a7a13e2c5f65b4129ab36673d9", func := "geyser/geyserlaw16.CutCounts", spec := "cutCounts", apart := false }
def CutCountsSaid : Prop := cutCountsRow.holds Try.pinned (OpenSpec.ofChange cutCountsSpec)

/-- ITS FALSE NEIGHBOUR: 'it returns false'. Refute it at one input. -/
def cutCountsWrong : ChangeSpec := { name := "cutCounts", fn := fun _ => fun
  | [d1, d2] => { results := [.lit (.bool false)], args := [d1, d2] }
  | _ => none }
def CutCountsWrongFalsely : Prop := cutCountsRow.holds Try.pinned (OpenSpec.ofChange cutCountsWrong)

/-- 'geyserlaw17.VolumeRanges': WHATEVER THE INPUT: true; the input reads as it did. -/
def volumeRangesSpec : ChangeSpec := { name := "volumeRanges", fn := fun _ => fun
  | [d1, d2] => { results := [.lit (.bool true)], args := [d1, d2] }
  | _ => none }
def volumeRangesRow : OpenClaim := { program := "ytkheloahiepoiaa", sum := "a1491aeae733824310d31d1a7d5c28ca625e94a7a13e2c5f65b4129ab36673d9", func := "geyser/geyserlaw17.VolumeRanges", spec := "volumeRanges", apart := false }
def VolumeRangesSaid : Prop := volumeRangesRow.holds Try.pinned (OpenSpec.ofChange volumeRangesSpec)

/-- ITS FALSE NEIGHBOUR: 'it returns false'. Refute it at one input. -/
def volumeRangesWrong : ChangeSpec := { name := "volumeRanges", fn := fun _ => fun
  | [d1, d2] => { results := [.lit (.bool false)], args := [d1, d2] }
  | _ => none }
def VolumeRangesWrongFalsely : Prop := volumeRangesRow.holds Try.pinned (OpenSpec.ofChange volumeRangesWrong)

/-- 'geyserlaw03.FieldMuls': WHATEVER THE INPUT: true; the input reads as it did. -/
def fieldMulsSpec : ChangeSpec := { name := "fieldMuls", fn := fun _ => fun
  | [d1, d2] => { results := [.lit (.bool true)], args := [d1, d2] }
  | _ => none }
def fieldMulsRow : OpenClaim := { program := "ytkheloahiepoiaa", sum := "a1491aeae733824310d31d1a7d5c28ca625e94a7a13e2c5f65b4129ab36673d9", func := "geyser/geyserlaw03.FieldMuls", spec := "fieldMuls", apart := false }
def FieldMulsSaid : Prop := fieldMulsRow.holds Try.pinned (OpenSpec.ofChange fieldMulsSpec)

/-- ITS FALSE NEIGHBOUR: 'it returns false'. Refute it at one input. -/
def fieldMulsWrong : ChangeSpec := { name := "fieldMuls", fn := fun _ => fun
  | [d1, d2] => { results := [.lit (.bool false)], args := [d1, d2] }
  | _ => none }
def FieldMulsWrongFalsely : Prop := fieldMulsRow.holds Try.pinned (OpenSpec.ofChange fieldMulsWrong)

/-- 'geyserlaw03.FieldLaws': WHATEVER THE INPUT: true; the input reads as it did. -/
def fieldLawsSpec : ChangeSpec := { name := "fieldLaws", fn := fun _ => fun
  | [d1, d2, d3] => { results := [.lit (.bool true)], args := [d1, d2, d3] }
  | _ => none }
def fieldLawsRow : OpenClaim := { program := "ytkheloahiepoiaa", sum := "a1491aeae733824310d31d1a7d5c28ca625e94a7a13e2c5f65b4129ab36673d9", func := "geyser/geyserlaw03.FieldLaws", spec := "fieldLaws", apart := false }
def FieldLawsSaid : Prop := fieldLawsRow.holds Try.pinned (OpenSpec.ofChange fieldLawsSpec)

/-- ITS FALSE NEIGHBOUR: 'it returns false'. Refute it at one input. -/
def fieldLawsWrong : ChangeSpec := { name := "fieldLaws", fn := fun _ => fun
  | [d1, d2, d3] => { results := [.lit (.bool false)], args := [d1, d2, d3] }
  | _ => none }
def FieldLawsWrongFalsely : Prop := fieldLawsRow.holds Try.pinned (OpenSpec.ofChange fieldLawsWrong)

/-- 'geyserlaw02.SumCRC': WHATEVER THE INPUT: true; the input reads as it did. -/
def sumCRCSpec : ChangeSpec := { name := "sumCRC", fn := fun _ => fun
  | [d] => { results := [.lit (.bool true)], args := [d] }
  | _ => none }
def sumCRCRow : OpenClaim := { program := "ytkheloahiepoiaa", sum := "a1491aeae733824310d31d1a7d5c28ca625e94a7a13e2c5f65b4129ab36673d9", func := "geyser/geyserlaw02.SumCRC", spec := "sumCRC", apart := false }
def SumCRCSaid : Prop := sumCRCRow.holds Try.pinned (OpenSpec.ofChange sumCRCSpec)

/-- ITS FALSE NEIGHBOUR: 'it returns false'. Refute it at one input. -/
def sumCRCWrong : ChangeSpec := { name := "sumCRC", fn := fun _ => fun
  | [d] => { results := [.lit (.bool false)], args := [d] }
  | _ => none }
def SumCRCWrongFalsely : Prop := sumCRCRow.holds Try.pinned (OpenSpec.ofChange sumCRCWrong)

/-- 'geyserlaw10.PeelRights': WHATEVER THE INPUT: true; the input reads as it did. -/
def peelRightsSpec : ChangeSpec := { name := "peelRights", fn := fun _ => fun
  | [d1, d2] => { results := [.lit (.bool true)], args := [d1, d2] }
  | _ => none }
def peelRightsRow : OpenClaim := { program := "ytkheloahiepoiaa", sum := "a1491aeae733824310d31d1a7d5c28ca625e94a7a13e2c5f65b4129ab36673d9", func := "geyser/geyserlaw10.PeelRights", spec := "peelRights", apart := false }
def PeelRightsSaid : Prop := peelRightsRow.holds Try.pinned (OpenSpec.ofChange peelRightsSpec)

/-- ITS FALSE NEIGHBOUR: 'it returns false'. Refute it at one input. -/
def peelRightsWrong : ChangeSpec := { name := "peelRights", fn := fun _ => fun
  | [d1, d2] => { results := [.lit (.bool false)], args := [d1, d2] }
  | _ => none }
def PeelRightsWrongFalsely : Prop := peelRightsRow.holds Try.pinned (OpenSpec.ofChange peelRightsWrong)

/-- 'geyserlaw03.FieldInvs': WHATEVER THE INPUT: true; the input reads as it did. -/
def fieldInvsSpec : ChangeSpec := { name := "fieldInvs", fn := fun _ => fun
  | [d] => { results := [.lit (.bool true)], args := [d] }
  | _ => none }
def fieldInvsRow : OpenClaim := { program := "ytkheloahiepoiaa", sum := "a1491aeae733824310d31d1a7d5c28ca625e94a7a13e2c5f65b4129ab36673d9", func := "geyser/geyserlaw03.FieldInvs", spec := "fieldInvs", apart := false }
def FieldInvsSaid : Prop := fieldInvsRow.holds Try.pinned (OpenSpec.ofChange fieldInvsSpec)

/-- ITS FALSE NEIGHBOUR: 'it returns false'. Refute it at one input. -/
def fieldInvsWrong : ChangeSpec := { name := "fieldInvs", fn := fun _ => fun
  | [d] => { results := [.lit (.bool false)], args := [d] }
  | _ => none }
def FieldInvsWrongFalsely : Prop := fieldInvsRow.holds Try.pinned (OpenSpec.ofChange fieldInvsWrong)

/-- 'geyserlaw03.FieldPows': WHATEVER THE INPUT: true; the input reads as it did. -/
def fieldPowsSpec : ChangeSpec := { name := "fieldPows", fn := fun _ => fun
  | [d1, d2] => { results := [.lit (.bool true)], args := [d1, d2] }
  | _ => none }
def fieldPowsRow : OpenClaim := { program := "ytkheloahiepoiaa", sum := "a1491aeae733824310d31d1a7d5c28ca625e94a7a13e2c5f65b4129ab36673d9", func := "geyser/geyserlaw03.FieldPows", spec := "fieldPows", apart := false }
def FieldPowsSaid : Prop := fieldPowsRow.holds Try.pinned (OpenSpec.ofChange fieldPowsSpec)

/-- ITS FALSE NEIGHBOUR: 'it returns false'. Refute it at one input. -/
def fieldPowsWrong : ChangeSpec := { name := "fieldPows", fn := fun _ => fun
  | [d1, d2] => { results := [.lit (.bool false)], args := [d1, d2] }
  | _ => none }
def FieldPowsWrongFalsely : Prop := fieldPowsRow.holds Try.pinned (OpenSpec.ofChange fieldPowsWrong)

/-- 'geyserlaw02.SumRolls': WHATEVER THE INPUT: true; the input reads as it did. -/
def sumRollsSpec : ChangeSpec := { name := "sumRolls", fn := fun _ => fun
  | [d1, d2] => { results := [.lit (.bool true)], args := [d1, d2] }
  | _ => none }
def sumRollsRow : OpenClaim := { program := "ytkheloahiepoiaa", sum := "a1491aeae733824310d31d1a7d5c28ca625e94a7a13e2c5f65b4129ab36673d9", func := "geyser/geyserlaw02.SumRolls", spec := "sumRolls", apart := false }
def SumRollsSaid : Prop := sumRollsRow.holds Try.pinned (OpenSpec.ofChange sumRollsSpec)

/-- ITS FALSE NEIGHBOUR: 'it returns false'. Refute it at one input. -/
def sumRollsWrong : ChangeSpec := { name := "sumRolls", fn := fun _ => fun
  | [d1, d2] => { results := [.lit (.bool false)], args := [d1, d2] }
  | _ => none }
def SumRollsWrongFalsely : Prop := sumRollsRow.holds Try.pinned (OpenSpec.ofChange sumRollsWrong)

/-- 'geyserlaw06.RandGoes': WHATEVER THE INPUT: true; the input reads as it did. -/
def randGoesSpec : ChangeSpec := { name := "randGoes", fn := fun _ => fun
  | [d1, d2] => { results := [.lit (.bool true)], args := [d1, d2] }
  | _ => none }
def randGoesRow : OpenClaim := { program := "ytkheloahiepoiaa", sum := "a1491aeae733824310d31d1a7d5c28ca625e94a7a13e2c5f65b4129ab36673d9", func := "geyser/geyserlaw06.RandGoes", spec := "randGoes", apart := false }
def RandGoesSaid : Prop := randGoesRow.holds Try.pinned (OpenSpec.ofChange randGoesSpec)

/-- ITS FALSE NEIGHBOUR: 'it returns false'. Refute it at one input. -/
def randGoesWrong : ChangeSpec := { name := "randGoes", fn := fun _ => fun
  | [d1, d2] => { results := [.lit (.bool false)], args := [d1, d2] }
  | _ => none }
def RandGoesWrongFalsely : Prop := randGoesRow.holds Try.pinned (OpenSpec.ofChange randGoesWrong)

/-- 'geyserlaw06.RandSeeds': WHATEVER THE INPUT: true; the input reads as it did. -/
def randSeedsSpec : ChangeSpec := { name := "randSeeds", fn := fun _ => fun
  | [d1, d2, d3] => { results := [.lit (.bool true)], args := [d1, d2, d3] }
  | _ => none }
def randSeedsRow : OpenClaim := { program := "ytkheloahiepoiaa", sum := "a1491aeae733824310d31d1a7d5c28ca625e94a7a13e2c5f65b4129ab36673d9", func := "geyser/geyserlaw06.RandSeeds", spec := "randSeeds", apart := false }
def RandSeedsSaid : Prop := randSeedsRow.holds Try.pinned (OpenSpec.ofChange randSeedsSpec)

/-- ITS FALSE NEIGHBOUR: 'it returns false'. Refute it at one input. -/
def randSeedsWrong : ChangeSpec := { name := "randSeeds", fn := fun _ => fun
  | [d1, d2, d3] => { results := [.lit (.bool false)], args := [d1, d2, d3] }
  | _ => none }
def RandSeedsWrongFalsely : Prop := randSeedsRow.holds Try.pinned (OpenSpec.ofChange randSeedsWrong)

/-- 'geyserlaw07.PrecodeRows': WHATEVER THE INPUT: true; the input reads as it did. -/
def precodeRowsSpec : ChangeSpec := { name := "precodeRows", fn := fun _ => fun
  | [d] => { results := [.lit (.bool true)], args := [d] }
  | _ => none }
def precodeRowsRow : OpenClaim := { program := "ytkheloahiepoiaa", sum := "a1491aeae733824310d31d1a7d5c28ca625e94a7a13e2c5f65b4129ab36673d9", func := "geyser/geyserlaw07.PrecodeRows", spec := "precodeRows", apart := false }
def PrecodeRowsSaid : Prop := precodeRowsRow.holds Try.pinned (OpenSpec.ofChange precodeRowsSpec)

/-- ITS FALSE NEIGHBOUR: 'it returns false'. Refute it at one input. -/
def precodeRowsWrong : ChangeSpec := { name := "precodeRows", fn := fun _ => fun
  | [d] => { results := [.lit (.bool false)], args := [d] }
  | _ => none }
def PrecodeRowsWrongFalsely : Prop := precodeRowsRow.holds Try.pinned (OpenSpec.ofChange precodeRowsWrong)

/- THE SECOND FORM. 'bulk': how many values and letters a reading holds, each counted each time it is reached (what is shared counts as often as it is met; a slice's spare places count too). A statement '..UptoSaid' is the law's where the arguments, and the package variables that the reading takes, are together of bulk at most 1048576: NARROWER than '..Said'. Prove '..Said' where nothing that the law and all that it calls make is longer than what came in: it says more and counts as full. Else prove '..UptoSaid'. A law counts once. -/
mutual
def uptoBulk {H : Type} : DataW H → Nat
  | .lit (.string bytes) => bytes.length + 1
  | .lit _ => 1
  | .nil => 1
  | .ptr d => uptoBulk d + 1
  | .slice elems spare => uptoBulkAll elems + uptoBulkAll spare + 1
  | .agg parts => uptoBulkAll parts + 1
  | .iface _ d => uptoBulk d + 1
  | .map entries => uptoBulkEntries entries + 1
  | .held _ => 1
def uptoBulkAll {H : Type} : List (DataW H) → Nat
  | [] => 0
  | d :: r => uptoBulk d + uptoBulkAll r
def uptoBulkEntries {H : Type} : List (Lit × DataW H) → Nat
  | [] => 0
  | x :: r => uptoBulkEntry x + uptoBulkEntries r
def uptoBulkEntry {H : Type} : Lit × DataW H → Nat
  | (.string bytes, d) => bytes.length + uptoBulk d + 1
  | (_, d) => uptoBulk d + 1
 end
def uptoSmall : (H : Type) → List (DataW H) → Bool := fun _ ds => decide (uptoBulkAll ds ≤ 1048576)
def OpenSpec.upto (s : _root_.Go.ChangeSpec) : _root_.Go.OpenSpec := { _root_.Go.OpenSpec.ofChange s with cond := some uptoSmall }

/-- 'geyserlaw16.CutCounts', WHERE WHAT IT READS IS OF BULK AT MOST 1048576: true; the input reads as it did. -/
def cutCountsUptoRow : OpenClaim := { program := "ytkheloahiepoiaa", sum := "a1491aeae733824310d31d1a7d5c28ca625e94a7a13e2c5f65b4129ab36673d9", func := "geyser/geyserlaw16.CutCounts", spec := "cutCounts", apart := false, narrowed := true }
def CutCountsUptoSaid : Prop := cutCountsUptoRow.holds Try.pinned (OpenSpec.upto cutCountsSpec)

/-- 'geyserlaw17.VolumeRanges', WHERE WHAT IT READS IS OF BULK AT MOST 1048576: true; the input reads as it did. -/
def volumeRangesUptoRow : OpenClaim := { program := "ytkheloahiepoiaa", sum := "a1491aeae733824310d31d1a7d5c28ca625e94a7a13e2c5f65b4129ab36673d9", func := "geyser/geyserlaw17.VolumeRanges", spec := "volumeRanges", apart := false, narrowed := true }
def VolumeRangesUptoSaid : Prop := volumeRangesUptoRow.holds Try.pinned (OpenSpec.upto volumeRangesSpec)

/-- 'geyserlaw03.FieldMuls', WHERE WHAT IT READS IS OF BULK AT MOST 1048576: true; the input reads as it did. -/
def fieldMulsUptoRow : OpenClaim := { program := "ytkheloahiepoiaa", sum := "a1491aeae733824310d31d1a7d5c28ca625e94a7a13e2c5f65b4129ab36673d9", func := "geyser/geyserlaw03.FieldMuls", spec := "fieldMuls", apart := false, narrowed := true }
def FieldMulsUptoSaid : Prop := fieldMulsUptoRow.holds Try.pinned (OpenSpec.upto fieldMulsSpec)

/-- 'geyserlaw03.FieldLaws', WHERE WHAT IT READS IS OF BULK AT MOST 1048576: true; the input reads as it did. -/
def fieldLawsUptoRow : OpenClaim := { program := "ytkheloahiepoiaa", sum := "a1491aeae733824310d31d1a7d5c28ca625e94a7a13e2c5f65b4129ab36673d9", func := "geyser/geyserlaw03.FieldLaws", spec := "fieldLaws", apart := false, narrowed := true }
def FieldLawsUptoSaid : Prop := fieldLawsUptoRow.holds Try.pinned (OpenSpec.upto fieldLawsSpec)

/-- 'geyserlaw02.SumCRC', WHERE WHAT IT READS IS OF BULK AT MOST 1048576: true; the input reads as it did. -/
def sumCRCUptoRow : OpenClaim := { program := "ytkheloahiepoiaa", sum := "a1491aeae733824310d31d1a7d5c28ca625e94a7a13e2c5f65b4129ab36673d9", func := "geyser/geyserlaw02.SumCRC", spec := "sumCRC", apart := false, narrowed := true }
def SumCRCUptoSaid : Prop := sumCRCUptoRow.holds Try.pinned (OpenSpec.upto sumCRCSpec)

/-- 'geyserlaw10.PeelRights', WHERE WHAT IT READS IS OF BULK AT MOST 1048576: true; the input reads as it did. -/
def peelRightsUptoRow : OpenClaim := { program := "ytkheloahiepoiaa", sum := "a1491aeae733824310d31d1a7d5c28ca625e94a7a13e2c5f65b4129ab36673d9", func := "geyser/geyserlaw10.PeelRights", spec := "peelRights", apart := false, narrowed := true }
def PeelRightsUptoSaid : Prop := peelRightsUptoRow.holds Try.pinned (OpenSpec.upto peelRightsSpec)

/-- 'geyserlaw03.FieldInvs', WHERE WHAT IT READS IS OF BULK AT MOST 1048576: true; the input reads as it did. -/
def fieldInvsUptoRow : OpenClaim := { program := "ytkheloahiepoiaa", sum := "a1491aeae733824310d31d1a7d5c28ca625e94a7a13e2c5f65b4129ab36673d9", func := "geyser/geyserlaw03.FieldInvs", spec := "fieldInvs", apart := false, narrowed := true }
def FieldInvsUptoSaid : Prop := fieldInvsUptoRow.holds Try.pinned (OpenSpec.upto fieldInvsSpec)

/-- 'geyserlaw03.FieldPows', WHERE WHAT IT READS IS OF BULK AT MOST 1048576: true; the input reads as it did. -/
def fieldPowsUptoRow : OpenClaim := { program := "ytkheloahiepoiaa", sum := "a1491aeae733824310d31d1a7d5c28ca625e94a7a13e2c5f65b4129ab36673d9", func := "geyser/geyserlaw03.FieldPows", spec := "fieldPows", apart := false, narrowed := true }
def FieldPowsUptoSaid : Prop := fieldPowsUptoRow.holds Try.pinned (OpenSpec.upto fieldPowsSpec)

/-- 'geyserlaw02.SumRolls', WHERE WHAT IT READS IS OF BULK AT MOST 1048576: true; the input reads as it did. -/
def sumRollsUptoRow : OpenClaim := { program := "ytkheloahiepoiaa", sum := "a1491aeae733824310d31d1a7d5c28ca625e94a7a13e2c5f65b4129ab36673d9", func := "geyser/geyserlaw02.SumRolls", spec := "sumRolls", apart := false, narrowed := true }
def SumRollsUptoSaid : Prop := sumRollsUptoRow.holds Try.pinned (OpenSpec.upto sumRollsSpec)

/-- 'geyserlaw06.RandGoes', WHERE WHAT IT READS IS OF BULK AT MOST 1048576: true; the input reads as it did. -/
def randGoesUptoRow : OpenClaim := { program := "ytkheloahiepoiaa", sum := "a1491aeae733824310d31d1a7d5c28ca625e94a7a13e2c5f65b4129ab36673d9", func := "geyser/geyserlaw06.RandGoes", spec := "randGoes", apart := false, narrowed := true }
def RandGoesUptoSaid : Prop := randGoesUptoRow.holds Try.pinned (OpenSpec.upto randGoesSpec)

/-- 'geyserlaw06.RandSeeds', WHERE WHAT IT READS IS OF BULK AT MOST 1048576: true; the input reads as it did. -/
def randSeedsUptoRow : OpenClaim := { program := "ytkheloahiepoiaa", sum := "a1491aeae733824310d31d1a7d5c28ca625e94a7a13e2c5f65b4129ab36673d9", func := "geyser/geyserlaw06.RandSeeds", spec := "randSeeds", apart := false, narrowed := true }
def RandSeedsUptoSaid : Prop := randSeedsUptoRow.holds Try.pinned (OpenSpec.upto randSeedsSpec)

/-- 'geyserlaw07.PrecodeRows', WHERE WHAT IT READS IS OF BULK AT MOST 1048576: true; the input reads as it did. -/
def precodeRowsUptoRow : OpenClaim := { program := "ytkheloahiepoiaa", sum := "a1491aeae733824310d31d1a7d5c28ca625e94a7a13e2c5f65b4129ab36673d9", func := "geyser/geyserlaw07.PrecodeRows", spec := "precodeRows", apart := false, narrowed := true }
def PrecodeRowsUptoSaid : Prop := precodeRowsUptoRow.holds Try.pinned (OpenSpec.upto precodeRowsSpec)

end Rows
end Go.Proofs.Ytkheloahiepoiaa
