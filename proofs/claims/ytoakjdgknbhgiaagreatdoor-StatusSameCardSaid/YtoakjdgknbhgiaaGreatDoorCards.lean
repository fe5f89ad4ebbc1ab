/-
  DERIVED. GIVEN WITH THE SEED: THE CARDS: each row of YtoakjdgknbhgiaaGreatDoorRows.lean that lists a variable, with what it lists TIED to the program's text (the seventh form; the later family's looks); each row that meets fmt, with fmt's text TOLD by the authors' own Lean function (tested against real Go, not proved from fmt's source: count such statements apart). THE CARD IS WHAT COUNTS. Prove the row's statement (the work); the ties are given (YtoakjdgknbhgiaaGreatDoorTie.lean); close each card by the builder's one call (the guide's Derived/Test/ToyasCard.lean, 'card_holds'). Laid BY PROGRAM, IN A SANDBOX (cutbox-door.mjs). By AI agents, Wed Nov 11 2026. No macro, syntax, notation, axiom, sorry.
-/
import Derived.Test.YtoakjdgknbhgiaaGreatDoorRows
import GoSem.ClaimSeven
namespace Go.Proofs.YtoakjdgknbhgiaaGreatDoor
namespace Rows

/-- THE TIED CARD OF 'geyserlaw19.StatusSame'. -/
def statusSameCard : Claim7 := { stood := { row := statusSameRow, standIns := [], harness := (true, "6b0ba4afe52c4401354ce040560612cdb258e492514ccfdf5211eec545a7ae57"), looks := false }, kinds := [], alts := [], laidByText := true, laidKinds := [.data, .pinned], laidTests := true, laidLooks := .later }
def StatusSameCardSaid : Prop := Claim7.holds Tryz.pinned (.plain (OpenSpec.ofChange statusSameSpec)) statusSameCard

/-- THE SECOND FORM's CARD OF 'geyserlaw19.StatusSame'. -/
def statusSameUptoCard : Claim7 := { stood := { row := statusSameUptoRow, standIns := [], harness := (true, "6b0ba4afe52c4401354ce040560612cdb258e492514ccfdf5211eec545a7ae57"), looks := false }, kinds := [], alts := [], laidByText := true, laidKinds := [.data, .pinned], laidTests := true, laidLooks := .later }
def StatusSameUptoCardSaid : Prop := Claim7.holds Tryz.pinned (.plain (OpenSpec.upto statusSameSpec)) statusSameUptoCard
end Rows
end Go.Proofs.YtoakjdgknbhgiaaGreatDoor
