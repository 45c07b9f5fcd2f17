/-
  DERIVED. GIVEN WITH THE SEED: THE CARDS: each row of YtmiomdldmoejgaaGreatDoorRows.lean that lists a variable, with what it lists TIED to the program's text (the seventh form; the later family's looks); each row that meets fmt, with fmt's text TOLD by the authors' own Lean function (tested against real Go, not proved from fmt's source: count such statements apart). THE CARD IS WHAT COUNTS. Prove the row's statement (the work); the ties are given (YtmiomdldmoejgaaGreatDoorTie.lean); close each card by the builder's one call (the guide's Derived/Test/ToyasCard.lean, 'card_holds'). Laid BY PROGRAM, IN A SANDBOX (cutbox-door.mjs). By AI agents, Wed Nov 11 2026. No macro, syntax, notation, axiom, sorry.
-/
import Derived.Test.YtmiomdldmoejgaaGreatDoorRows
import GoSem.ClaimSeven
namespace Go.Proofs.YtmiomdldmoejgaaGreatDoor
namespace Rows

/-- THE TIED CARD OF 'exitwavelaw9.BifOps'. -/
def bifOpsCard : Claim7 := { stood := { row := bifOpsRow, standIns := [], harness := (true, "4f604b4caff798b756d11ad4479be2e144476f0e90d089543eef2ed5bd26f6cd"), looks := true }, kinds := [], alts := [], laidByText := true, laidKinds := [.data, .data, .data, .sentinel, .sentinel], laidTests := true, laidLooks := .later }
def BifOpsCardSaid : Prop := Claim7.holds Tryz.pinned (.plain (OpenSpec.ofChange bifOpsSpec)) bifOpsCard

/-- THE SECOND FORM's CARD OF 'exitwavelaw9.BifOps'. -/
def bifOpsUptoCard : Claim7 := { stood := { row := bifOpsUptoRow, standIns := [], harness := (true, "4f604b4caff798b756d11ad4479be2e144476f0e90d089543eef2ed5bd26f6cd"), looks := true }, kinds := [], alts := [], laidByText := true, laidKinds := [.data, .data, .data, .sentinel, .sentinel], laidTests := true, laidLooks := .later }
def BifOpsUptoCardSaid : Prop := Claim7.holds Tryz.pinned (.plain (OpenSpec.upto bifOpsSpec)) bifOpsUptoCard
end Rows
end Go.Proofs.YtmiomdldmoejgaaGreatDoor
