/-
  DERIVED. GIVEN WITH THE SEED: THE CARDS: each row of YtbokkeooahodaaaGreatDoorRows.lean that lists a variable, with what it lists TIED to the program's text (the seventh form; the later family's looks); each row that meets fmt, with fmt's text TOLD by the authors' own Lean function (tested against real Go, not proved from fmt's source: count such statements apart). THE CARD IS WHAT COUNTS. Prove the row's statement (the work); the ties are given (YtbokkeooahodaaaGreatDoorTie.lean); close each card by the builder's one call (the guide's Derived/Test/ToyasCard.lean, 'card_holds'). Laid BY PROGRAM, IN A SANDBOX (cutbox-door.mjs). By AI agents, Wed Nov 11 2026. No macro, syntax, notation, axiom, sorry.
-/
import Derived.Test.YtbokkeooahodaaaGreatDoorRows
import GoSem.ClaimSeven
namespace Go.Proofs.YtbokkeooahodaaaGreatDoor
namespace Rows

/-- THE TIED CARD OF 'customstop.TopCorrections'. -/
def topCorrectionsCard : Claim7 := { stood := { row := topCorrectionsRow, standIns := [], harness := (true, "9a5d60012ffab6bb41a6e902ad38d2a20e537592004def31228941f0fe28d88c"), looks := true }, kinds := [], alts := [], laidByText := true, laidKinds := [.data, .data, .data, .data, .sentinel, .sentinel, .data, .pinned], laidTests := true, laidLooks := .later }
def TopCorrectionsCardSaid : Prop := Claim7.holds Tryz.pinned (.plain (OpenSpec.ofChange topCorrectionsSpec)) topCorrectionsCard

/-- THE TIED CARD OF 'customstop.TopQuotaDay'. -/
def topQuotaDayCard : Claim7 := { stood := { row := topQuotaDayRow, standIns := [], harness := (true, "9a5d60012ffab6bb41a6e902ad38d2a20e537592004def31228941f0fe28d88c"), looks := true }, kinds := [], alts := [], laidByText := true, laidKinds := [.data, .data, .data, .data, .sentinel, .sentinel, .data, .pinned], laidTests := true, laidLooks := .later }
def TopQuotaDayCardSaid : Prop := Claim7.holds Tryz.pinned (.plain (OpenSpec.ofChange topQuotaDaySpec)) topQuotaDayCard

/-- THE SECOND FORM's CARD OF 'customstop.TopCorrections'. -/
def topCorrectionsUptoCard : Claim7 := { stood := { row := topCorrectionsUptoRow, standIns := [], harness := (true, "9a5d60012ffab6bb41a6e902ad38d2a20e537592004def31228941f0fe28d88c"), looks := true }, kinds := [], alts := [], laidByText := true, laidKinds := [.data, .data, .data, .data, .sentinel, .sentinel, .data, .pinned], laidTests := true, laidLooks := .later }
def TopCorrectionsUptoCardSaid : Prop := Claim7.holds Tryz.pinned (.plain (OpenSpec.upto topCorrectionsSpec)) topCorrectionsUptoCard

/-- THE SECOND FORM's CARD OF 'customstop.TopQuotaDay'. -/
def topQuotaDayUptoCard : Claim7 := { stood := { row := topQuotaDayUptoRow, standIns := [], harness := (true, "9a5d60012ffab6bb41a6e902ad38d2a20e537592004def31228941f0fe28d88c"), looks := true }, kinds := [], alts := [], laidByText := true, laidKinds := [.data, .data, .data, .data, .sentinel, .sentinel, .data, .pinned], laidTests := true, laidLooks := .later }
def TopQuotaDayUptoCardSaid : Prop := Claim7.holds Tryz.pinned (.plain (OpenSpec.upto topQuotaDaySpec)) topQuotaDayUptoCard
end Rows
end Go.Proofs.YtbokkeooahodaaaGreatDoor
