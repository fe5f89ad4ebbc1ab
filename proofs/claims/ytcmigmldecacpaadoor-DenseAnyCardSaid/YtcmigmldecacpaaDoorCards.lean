/-
  DERIVED. GIVEN WITH THE SEED: THE CARDS: each row of YtcmigmldecacpaaDoorRows.lean that lists a variable, with what it lists TIED to the program's text (the seventh form; the later family's looks); each row that meets fmt, with fmt's text TOLD by the authors' own Lean function (tested against real Go, not proved from fmt's source: count such statements apart). THE CARD IS WHAT COUNTS. Prove the row's statement (the work); the ties are given (YtcmigmldecacpaaDoorTie.lean); close each card by the builder's one call (the guide's Derived/Test/ToyasCard.lean, 'card_holds'). Laid BY PROGRAM, IN A SANDBOX (cutbox-door.mjs). By AI agents, Wed Nov 11 2026. No macro, syntax, notation, axiom, sorry.
-/
import Derived.Test.YtcmigmldecacpaaDoorRows
import GoSem.ClaimSeven
namespace Go.Proofs.YtcmigmldecacpaaDoor
namespace Rows

/-- THE TIED CARD OF 'geyserlaw04.VectorAdds'. -/
def vectorAddsCard : Claim7 := { stood := { row := vectorAddsRow, standIns := [], harness := (true, "c836a4ab969239d1b04291f5f8f027d44533a64c4bcfb41e2d12c2b1af0e0f6d"), looks := false }, kinds := [], alts := [], laidByText := true, laidKinds := [.data, .pinned], laidTests := true, laidLooks := .later }
def VectorAddsCardSaid : Prop := Claim7.holds Tryd.pinned (.plain (OpenSpec.ofChange vectorAddsSpec)) vectorAddsCard

/-- THE TIED CARD OF 'geyserlaw04.VectorDots'. -/
def vectorDotsCard : Claim7 := { stood := { row := vectorDotsRow, standIns := [], harness := (true, "c836a4ab969239d1b04291f5f8f027d44533a64c4bcfb41e2d12c2b1af0e0f6d"), looks := false }, kinds := [], alts := [], laidByText := true, laidKinds := [.data, .pinned], laidTests := true, laidLooks := .later }
def VectorDotsCardSaid : Prop := Claim7.holds Tryd.pinned (.plain (OpenSpec.ofChange vectorDotsSpec)) vectorDotsCard

/-- THE TIED CARD OF 'geyserlaw05.DenseSolves'. -/
def denseSolvesCard : Claim7 := { stood := { row := denseSolvesRow, standIns := [], harness := (true, "c836a4ab969239d1b04291f5f8f027d44533a64c4bcfb41e2d12c2b1af0e0f6d"), looks := false }, kinds := [], alts := [], laidByText := true, laidKinds := [.data, .pinned], laidTests := true, laidLooks := .later }
def DenseSolvesCardSaid : Prop := Claim7.holds Tryd.pinned (.plain (OpenSpec.ofChange denseSolvesSpec)) denseSolvesCard

/-- THE TIED CARD OF 'geyserlaw05.DenseAny'. -/
def denseAnyCard : Claim7 := { stood := { row := denseAnyRow, standIns := [], harness := (true, "c836a4ab969239d1b04291f5f8f027d44533a64c4bcfb41e2d12c2b1af0e0f6d"), looks := false }, kinds := [], alts := [], laidByText := true, laidKinds := [.data, .pinned], laidTests := true, laidLooks := .later }
def DenseAnyCardSaid : Prop := Claim7.holds Tryd.pinned (.plain (OpenSpec.ofChange denseAnySpec)) denseAnyCard

/-- THE SECOND FORM's CARD OF 'geyserlaw04.VectorAdds'. -/
def vectorAddsUptoCard : Claim7 := { stood := { row := vectorAddsUptoRow, standIns := [], harness := (true, "c836a4ab969239d1b04291f5f8f027d44533a64c4bcfb41e2d12c2b1af0e0f6d"), looks := false }, kinds := [], alts := [], laidByText := true, laidKinds := [.data, .pinned], laidTests := true, laidLooks := .later }
def VectorAddsUptoCardSaid : Prop := Claim7.holds Tryd.pinned (.plain (OpenSpec.upto vectorAddsSpec)) vectorAddsUptoCard

/-- THE SECOND FORM's CARD OF 'geyserlaw04.VectorDots'. -/
def vectorDotsUptoCard : Claim7 := { stood := { row := vectorDotsUptoRow, standIns := [], harness := (true, "c836a4ab969239d1b04291f5f8f027d44533a64c4bcfb41e2d12c2b1af0e0f6d"), looks := false }, kinds := [], alts := [], laidByText := true, laidKinds := [.data, .pinned], laidTests := true, laidLooks := .later }
def VectorDotsUptoCardSaid : Prop := Claim7.holds Tryd.pinned (.plain (OpenSpec.upto vectorDotsSpec)) vectorDotsUptoCard

/-- THE SECOND FORM's CARD OF 'geyserlaw05.DenseSolves'. -/
def denseSolvesUptoCard : Claim7 := { stood := { row := denseSolvesUptoRow, standIns := [], harness := (true, "c836a4ab969239d1b04291f5f8f027d44533a64c4bcfb41e2d12c2b1af0e0f6d"), looks := false }, kinds := [], alts := [], laidByText := true, laidKinds := [.data, .pinned], laidTests := true, laidLooks := .later }
def DenseSolvesUptoCardSaid : Prop := Claim7.holds Tryd.pinned (.plain (OpenSpec.upto denseSolvesSpec)) denseSolvesUptoCard

/-- THE SECOND FORM's CARD OF 'geyserlaw05.DenseAny'. -/
def denseAnyUptoCard : Claim7 := { stood := { row := denseAnyUptoRow, standIns := [], harness := (true, "c836a4ab969239d1b04291f5f8f027d44533a64c4bcfb41e2d12c2b1af0e0f6d"), looks := false }, kinds := [], alts := [], laidByText := true, laidKinds := [.data, .pinned], laidTests := true, laidLooks := .later }
def DenseAnyUptoCardSaid : Prop := Claim7.holds Tryd.pinned (.plain (OpenSpec.upto denseAnySpec)) denseAnyUptoCard
end Rows
end Go.Proofs.YtcmigmldecacpaaDoor
