/-
  DERIVED. GIVEN WITH THE SEED: THE CARDS: each row of YtcmaphhbecjbjaaGreatDoorRows.lean that lists a variable, with what it lists TIED to the program's text (the seventh form; the later family's looks); each row that meets fmt, with fmt's text TOLD by the authors' own Lean function (tested against real Go, not proved from fmt's source: count such statements apart). THE CARD IS WHAT COUNTS. Prove the row's statement (the work); the ties are given (YtcmaphhbecjbjaaGreatDoorTie.lean); close each card by the builder's one call (the guide's Derived/Test/ToyasCard.lean, 'card_holds'). Laid BY PROGRAM, IN A SANDBOX (cutbox-door.mjs). By AI agents, Wed Nov 11 2026. No macro, syntax, notation, axiom, sorry.
-/
import Derived.Test.YtcmaphhbecjbjaaGreatDoorRows
import GoSem.ClaimSeven
namespace Go.Proofs.YtcmaphhbecjbjaaGreatDoor
namespace Rows

/-- THE TIED CARD OF 'exitwavelaw9.BifBack'. -/
def bifBackCard : Claim7 := { stood := { row := bifBackRow, standIns := [], harness := (true, "c6ff1c1333b0e313d706ec627ddc37d7f32d452873c0c516458e1aa87acc4b33"), looks := true }, kinds := [], alts := [], laidByText := true, laidKinds := [.data, .data, .data, .sentinel, .sentinel], laidTests := true, laidLooks := .later }
def BifBackCardSaid : Prop := Claim7.holds Tryz.pinned (.plain (OpenSpec.ofChange bifBackSpec)) bifBackCard

/-- THE TIED CARD OF 'exitwavelaw9.BifOrders'. -/
def bifOrdersCard : Claim7 := { stood := { row := bifOrdersRow, standIns := [], harness := (true, "c6ff1c1333b0e313d706ec627ddc37d7f32d452873c0c516458e1aa87acc4b33"), looks := true }, kinds := [], alts := [], laidByText := true, laidKinds := [.data, .data, .data, .sentinel, .sentinel], laidTests := true, laidLooks := .later }
def BifOrdersCardSaid : Prop := Claim7.holds Tryz.pinned (.plain (OpenSpec.ofChange bifOrdersSpec)) bifOrdersCard

/-- THE TIED CARD OF 'exitwavelaw9.BifRight'. -/
def bifRightCard : Claim7 := { stood := { row := bifRightRow, standIns := [], harness := (true, "c6ff1c1333b0e313d706ec627ddc37d7f32d452873c0c516458e1aa87acc4b33"), looks := true }, kinds := [], alts := [], laidByText := true, laidKinds := [.data, .data, .data, .sentinel, .sentinel], laidTests := true, laidLooks := .later }
def BifRightCardSaid : Prop := Claim7.holds Tryz.pinned (.plain (OpenSpec.ofChange bifRightSpec)) bifRightCard

/-- THE SECOND FORM's CARD OF 'exitwavelaw9.BifBack'. -/
def bifBackUptoCard : Claim7 := { stood := { row := bifBackUptoRow, standIns := [], harness := (true, "c6ff1c1333b0e313d706ec627ddc37d7f32d452873c0c516458e1aa87acc4b33"), looks := true }, kinds := [], alts := [], laidByText := true, laidKinds := [.data, .data, .data, .sentinel, .sentinel], laidTests := true, laidLooks := .later }
def BifBackUptoCardSaid : Prop := Claim7.holds Tryz.pinned (.plain (OpenSpec.upto bifBackSpec)) bifBackUptoCard

/-- THE SECOND FORM's CARD OF 'exitwavelaw9.BifOrders'. -/
def bifOrdersUptoCard : Claim7 := { stood := { row := bifOrdersUptoRow, standIns := [], harness := (true, "c6ff1c1333b0e313d706ec627ddc37d7f32d452873c0c516458e1aa87acc4b33"), looks := true }, kinds := [], alts := [], laidByText := true, laidKinds := [.data, .data, .data, .sentinel, .sentinel], laidTests := true, laidLooks := .later }
def BifOrdersUptoCardSaid : Prop := Claim7.holds Tryz.pinned (.plain (OpenSpec.upto bifOrdersSpec)) bifOrdersUptoCard

/-- THE SECOND FORM's CARD OF 'exitwavelaw9.BifRight'. -/
def bifRightUptoCard : Claim7 := { stood := { row := bifRightUptoRow, standIns := [], harness := (true, "c6ff1c1333b0e313d706ec627ddc37d7f32d452873c0c516458e1aa87acc4b33"), looks := true }, kinds := [], alts := [], laidByText := true, laidKinds := [.data, .data, .data, .sentinel, .sentinel], laidTests := true, laidLooks := .later }
def BifRightUptoCardSaid : Prop := Claim7.holds Tryz.pinned (.plain (OpenSpec.upto bifRightSpec)) bifRightUptoCard
end Rows
end Go.Proofs.YtcmaphhbecjbjaaGreatDoor
