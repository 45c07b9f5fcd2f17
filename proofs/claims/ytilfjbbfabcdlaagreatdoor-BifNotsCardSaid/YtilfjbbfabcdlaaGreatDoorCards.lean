/-
  DERIVED. GIVEN WITH THE SEED: THE CARDS: each row of YtilfjbbfabcdlaaGreatDoorRows.lean that lists a variable, with what it lists TIED to the program's text (the seventh form; the later family's looks); each row that meets fmt, with fmt's text TOLD by the authors' own Lean function (tested against real Go, not proved from fmt's source: count such statements apart). THE CARD IS WHAT COUNTS. Prove the row's statement (the work); the ties are given (YtilfjbbfabcdlaaGreatDoorTie.lean); close each card by the builder's one call (the guide's Derived/Test/ToyasCard.lean, 'card_holds'). Laid BY PROGRAM, IN A SANDBOX (cutbox-door.mjs). By AI agents, Wed Nov 11 2026. No macro, syntax, notation, axiom, sorry.
-/
import Derived.Test.YtilfjbbfabcdlaaGreatDoorRows
import GoSem.ClaimSeven
namespace Go.Proofs.YtilfjbbfabcdlaaGreatDoor
namespace Rows

/-- THE TIED CARD OF 'exitwavelaw9.BifKinds'. -/
def bifKindsCard : Claim7 := { stood := { row := bifKindsRow, standIns := [], harness := (true, "734ac4606e40fa6dd4aed9fc34fb2599822689e404be667e57ed7cfbb5655ea3"), looks := true }, kinds := [], alts := [], laidByText := true, laidKinds := [.data, .data, .data, .sentinel, .sentinel], laidTests := true, laidLooks := .later }
def BifKindsCardSaid : Prop := Claim7.holds Tryz.pinned (.plain (OpenSpec.ofChange bifKindsSpec)) bifKindsCard

/-- THE TIED CARD OF 'exitwavelaw9.BifPlaces'. -/
def bifPlacesCard : Claim7 := { stood := { row := bifPlacesRow, standIns := [], harness := (true, "734ac4606e40fa6dd4aed9fc34fb2599822689e404be667e57ed7cfbb5655ea3"), looks := true }, kinds := [], alts := [], laidByText := true, laidKinds := [.data, .data, .data, .sentinel, .sentinel], laidTests := true, laidLooks := .later }
def BifPlacesCardSaid : Prop := Claim7.holds Tryz.pinned (.plain (OpenSpec.ofChange bifPlacesSpec)) bifPlacesCard

/-- THE TIED CARD OF 'exitwavelaw9.BifNots'. -/
def bifNotsCard : Claim7 := { stood := { row := bifNotsRow, standIns := [], harness := (true, "734ac4606e40fa6dd4aed9fc34fb2599822689e404be667e57ed7cfbb5655ea3"), looks := true }, kinds := [], alts := [], laidByText := true, laidKinds := [.data, .data, .data, .sentinel, .sentinel], laidTests := true, laidLooks := .later }
def BifNotsCardSaid : Prop := Claim7.holds Tryz.pinned (.plain (OpenSpec.ofChange bifNotsSpec)) bifNotsCard

/-- THE TIED CARD OF 'exitwavelaw9.BifIs'. -/
def bifIsCard : Claim7 := { stood := { row := bifIsRow, standIns := [], harness := (true, "734ac4606e40fa6dd4aed9fc34fb2599822689e404be667e57ed7cfbb5655ea3"), looks := true }, kinds := [], alts := [], laidByText := true, laidKinds := [.data, .data, .data, .sentinel, .sentinel], laidTests := true, laidLooks := .later }
def BifIsCardSaid : Prop := Claim7.holds Tryz.pinned (.plain (OpenSpec.ofChange bifIsSpec)) bifIsCard

/-- THE SECOND FORM's CARD OF 'exitwavelaw9.BifKinds'. -/
def bifKindsUptoCard : Claim7 := { stood := { row := bifKindsUptoRow, standIns := [], harness := (true, "734ac4606e40fa6dd4aed9fc34fb2599822689e404be667e57ed7cfbb5655ea3"), looks := true }, kinds := [], alts := [], laidByText := true, laidKinds := [.data, .data, .data, .sentinel, .sentinel], laidTests := true, laidLooks := .later }
def BifKindsUptoCardSaid : Prop := Claim7.holds Tryz.pinned (.plain (OpenSpec.upto bifKindsSpec)) bifKindsUptoCard

/-- THE SECOND FORM's CARD OF 'exitwavelaw9.BifPlaces'. -/
def bifPlacesUptoCard : Claim7 := { stood := { row := bifPlacesUptoRow, standIns := [], harness := (true, "734ac4606e40fa6dd4aed9fc34fb2599822689e404be667e57ed7cfbb5655ea3"), looks := true }, kinds := [], alts := [], laidByText := true, laidKinds := [.data, .data, .data, .sentinel, .sentinel], laidTests := true, laidLooks := .later }
def BifPlacesUptoCardSaid : Prop := Claim7.holds Tryz.pinned (.plain (OpenSpec.upto bifPlacesSpec)) bifPlacesUptoCard

/-- THE SECOND FORM's CARD OF 'exitwavelaw9.BifNots'. -/
def bifNotsUptoCard : Claim7 := { stood := { row := bifNotsUptoRow, standIns := [], harness := (true, "734ac4606e40fa6dd4aed9fc34fb2599822689e404be667e57ed7cfbb5655ea3"), looks := true }, kinds := [], alts := [], laidByText := true, laidKinds := [.data, .data, .data, .sentinel, .sentinel], laidTests := true, laidLooks := .later }
def BifNotsUptoCardSaid : Prop := Claim7.holds Tryz.pinned (.plain (OpenSpec.upto bifNotsSpec)) bifNotsUptoCard

/-- THE SECOND FORM's CARD OF 'exitwavelaw9.BifIs'. -/
def bifIsUptoCard : Claim7 := { stood := { row := bifIsUptoRow, standIns := [], harness := (true, "734ac4606e40fa6dd4aed9fc34fb2599822689e404be667e57ed7cfbb5655ea3"), looks := true }, kinds := [], alts := [], laidByText := true, laidKinds := [.data, .data, .data, .sentinel, .sentinel], laidTests := true, laidLooks := .later }
def BifIsUptoCardSaid : Prop := Claim7.holds Tryz.pinned (.plain (OpenSpec.upto bifIsSpec)) bifIsUptoCard
end Rows
end Go.Proofs.YtilfjbbfabcdlaaGreatDoor
