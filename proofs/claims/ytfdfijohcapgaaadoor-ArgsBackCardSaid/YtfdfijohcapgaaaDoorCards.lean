/-
  DERIVED. GIVEN WITH THE SEED: THE CARDS: each row of YtfdfijohcapgaaaDoorRows.lean that lists a variable, with what it lists TIED to the program's text (the seventh form; the later family's looks); each row that meets fmt, with fmt's text TOLD by the authors' own Lean function (tested against real Go, not proved from fmt's source: count such statements apart). THE CARD IS WHAT COUNTS. Prove the row's statement (the work); the ties are given (YtfdfijohcapgaaaDoorTie.lean); close each card by the builder's one call (the guide's Derived/Test/ToyasCard.lean, 'card_holds'). Laid BY PROGRAM, IN A SANDBOX (cutbox-door.mjs). By AI agents, Wed Nov 11 2026. No macro, syntax, notation, axiom, sorry.
-/
import Derived.Test.YtfdfijohcapgaaaDoorRows
import GoSem.ClaimSeven
namespace Go.Proofs.YtfdfijohcapgaaaDoor
namespace Rows

/-- THE TIED CARD OF 'geyserlaw22.ArgsBack'. -/
def argsBackCard : Claim7 := { stood := { row := argsBackRow, standIns := [], harness := (true, "aea1acaaa5f886ed5b457f00a5c646db77054feec95a1139f9a3f343d0c77127"), looks := true }, kinds := [], alts := [], laidByText := true, laidKinds := [.data, .data, .data, .data, .sentinel, .sentinel, .pinned], laidTests := true, laidLooks := .later }
def ArgsBackCardSaid : Prop := Claim7.holds Tryd.pinned (.plain (OpenSpec.ofChange argsBackSpec)) argsBackCard

/-- THE TIED CARD OF 'geyserlaw22.ArgsReads'. -/
def argsReadsCard : Claim7 := { stood := { row := argsReadsRow, standIns := [], harness := (true, "aea1acaaa5f886ed5b457f00a5c646db77054feec95a1139f9a3f343d0c77127"), looks := true }, kinds := [], alts := [], laidByText := true, laidKinds := [.data, .data, .data, .data, .sentinel, .sentinel, .pinned], laidTests := true, laidLooks := .later }
def ArgsReadsCardSaid : Prop := Claim7.holds Tryd.pinned (.plain (OpenSpec.ofChange argsReadsSpec)) argsReadsCard

/-- THE SECOND FORM's CARD OF 'geyserlaw22.ArgsBack'. -/
def argsBackUptoCard : Claim7 := { stood := { row := argsBackUptoRow, standIns := [], harness := (true, "aea1acaaa5f886ed5b457f00a5c646db77054feec95a1139f9a3f343d0c77127"), looks := true }, kinds := [], alts := [], laidByText := true, laidKinds := [.data, .data, .data, .data, .sentinel, .sentinel, .pinned], laidTests := true, laidLooks := .later }
def ArgsBackUptoCardSaid : Prop := Claim7.holds Tryd.pinned (.plain (OpenSpec.upto argsBackSpec)) argsBackUptoCard

/-- THE SECOND FORM's CARD OF 'geyserlaw22.ArgsReads'. -/
def argsReadsUptoCard : Claim7 := { stood := { row := argsReadsUptoRow, standIns := [], harness := (true, "aea1acaaa5f886ed5b457f00a5c646db77054feec95a1139f9a3f343d0c77127"), looks := true }, kinds := [], alts := [], laidByText := true, laidKinds := [.data, .data, .data, .data, .sentinel, .sentinel, .pinned], laidTests := true, laidLooks := .later }
def ArgsReadsUptoCardSaid : Prop := Claim7.holds Tryd.pinned (.plain (OpenSpec.upto argsReadsSpec)) argsReadsUptoCard
end Rows
end Go.Proofs.YtfdfijohcapgaaaDoor
