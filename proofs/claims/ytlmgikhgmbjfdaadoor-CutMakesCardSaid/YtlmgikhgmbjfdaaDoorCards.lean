/-
  DERIVED. GIVEN WITH THE SEED: THE CARDS: each row of YtlmgikhgmbjfdaaDoorRows.lean that lists a variable, with what it lists TIED to the program's text (the seventh form; the later family's looks); each row that meets fmt, with fmt's text TOLD by the authors' own Lean function (tested against real Go, not proved from fmt's source: count such statements apart). THE CARD IS WHAT COUNTS. Prove the row's statement (the work); the ties are given (YtlmgikhgmbjfdaaDoorTie.lean); close each card by the builder's one call (the guide's Derived/Test/ToyasCard.lean, 'card_holds'). Laid BY PROGRAM, IN A SANDBOX (cutbox-door.mjs). By AI agents, Wed Nov 11 2026. No macro, syntax, notation, axiom, sorry.
-/
import Derived.Test.YtlmgikhgmbjfdaaDoorRows
import GoSem.ClaimSeven
namespace Go.Proofs.YtlmgikhgmbjfdaaDoor
namespace Rows

/-- THE TIED CARD OF 'geyserlaw16.CutMakes'. -/
def cutMakesCard : Claim7 := { stood := { row := cutMakesRow, standIns := [], harness := (true, "00482820bda6f304c241d41502b57214544e6b50034d504f3798356ed1b09c4d"), looks := false }, kinds := [], alts := [], laidByText := true, laidKinds := [.data, .pinned], laidTests := true, laidLooks := .later }
def CutMakesCardSaid : Prop := Claim7.holds Tryd.pinned (.plain (OpenSpec.ofChange cutMakesSpec)) cutMakesCard

/-- THE TIED CARD OF 'geyserlaw14.PacketJoins'. -/
def packetJoinsCard : Claim7 := { stood := { row := packetJoinsRow, standIns := [], harness := (true, "00482820bda6f304c241d41502b57214544e6b50034d504f3798356ed1b09c4d"), looks := false }, kinds := [], alts := [], laidByText := true, laidKinds := [.data, .pinned], laidTests := true, laidLooks := .later }
def PacketJoinsCardSaid : Prop := Claim7.holds Tryd.pinned (.plain (OpenSpec.ofChange packetJoinsSpec)) packetJoinsCard

/-- THE TIED CARD OF 'geyserlaw14.PacketSets'. -/
def packetSetsCard : Claim7 := { stood := { row := packetSetsRow, standIns := [], harness := (true, "00482820bda6f304c241d41502b57214544e6b50034d504f3798356ed1b09c4d"), looks := false }, kinds := [], alts := [], laidByText := true, laidKinds := [.data, .pinned], laidTests := true, laidLooks := .later }
def PacketSetsCardSaid : Prop := Claim7.holds Tryd.pinned (.plain (OpenSpec.ofChange packetSetsSpec)) packetSetsCard

/-- THE SECOND FORM's CARD OF 'geyserlaw16.CutMakes'. -/
def cutMakesUptoCard : Claim7 := { stood := { row := cutMakesUptoRow, standIns := [], harness := (true, "00482820bda6f304c241d41502b57214544e6b50034d504f3798356ed1b09c4d"), looks := false }, kinds := [], alts := [], laidByText := true, laidKinds := [.data, .pinned], laidTests := true, laidLooks := .later }
def CutMakesUptoCardSaid : Prop := Claim7.holds Tryd.pinned (.plain (OpenSpec.upto cutMakesSpec)) cutMakesUptoCard

/-- THE SECOND FORM's CARD OF 'geyserlaw14.PacketJoins'. -/
def packetJoinsUptoCard : Claim7 := { stood := { row := packetJoinsUptoRow, standIns := [], harness := (true, "00482820bda6f304c241d41502b57214544e6b50034d504f3798356ed1b09c4d"), looks := false }, kinds := [], alts := [], laidByText := true, laidKinds := [.data, .pinned], laidTests := true, laidLooks := .later }
def PacketJoinsUptoCardSaid : Prop := Claim7.holds Tryd.pinned (.plain (OpenSpec.upto packetJoinsSpec)) packetJoinsUptoCard

/-- THE SECOND FORM's CARD OF 'geyserlaw14.PacketSets'. -/
def packetSetsUptoCard : Claim7 := { stood := { row := packetSetsUptoRow, standIns := [], harness := (true, "00482820bda6f304c241d41502b57214544e6b50034d504f3798356ed1b09c4d"), looks := false }, kinds := [], alts := [], laidByText := true, laidKinds := [.data, .pinned], laidTests := true, laidLooks := .later }
def PacketSetsUptoCardSaid : Prop := Claim7.holds Tryd.pinned (.plain (OpenSpec.upto packetSetsSpec)) packetSetsUptoCard
end Rows
end Go.Proofs.YtlmgikhgmbjfdaaDoor
