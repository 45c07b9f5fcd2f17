/-
  DERIVED. GIVEN WITH THE SEED: THE CARDS: each row of YtcphfgcfmphlfaaDoorRows.lean that lists a variable, with what it lists TIED to the program's text (the seventh form; the later family's looks); each row that meets fmt, with fmt's text TOLD by the authors' own Lean function (tested against real Go, not proved from fmt's source: count such statements apart). THE CARD IS WHAT COUNTS. Prove the row's statement (the work); the ties are given (YtcphfgcfmphlfaaDoorTie.lean); close each card by the builder's one call (the guide's Derived/Test/ToyasCard.lean, 'card_holds'). Laid BY PROGRAM, IN A SANDBOX (cutbox-door.mjs). By AI agents, Wed Nov 11 2026. No macro, syntax, notation, axiom, sorry.
-/
import Derived.Test.YtcphfgcfmphlfaaDoorRows
import GoSem.ClaimSeven
namespace Go.Proofs.YtcphfgcfmphlfaaDoor
namespace Rows

/-- THE TIED CARD OF 'exitwavelaw6.GramBlanks'. -/
def gramBlanksCard : Claim7 := { stood := { row := gramBlanksRow, standIns := [], harness := (true, "e1b8758ffaeba2c5332dec01d9443fb3cb3939cb2b8de47a3d455ad7c99184cd"), looks := true }, kinds := [], alts := [], laidByText := true, laidKinds := [.listed, .data], laidTests := true, laidLooks := .later }
def GramBlanksCardSaid : Prop := Claim7.holds Tryd.pinned (.plain (OpenSpec.ofChange gramBlanksSpec)) gramBlanksCard

/-- THE TIED CARD OF 'exitwavelaw6.GramBrackets'. -/
def gramBracketsCard : Claim7 := { stood := { row := gramBracketsRow, standIns := [], harness := (true, "e1b8758ffaeba2c5332dec01d9443fb3cb3939cb2b8de47a3d455ad7c99184cd"), looks := true }, kinds := [], alts := [], laidByText := true, laidKinds := [.listed, .data], laidTests := true, laidLooks := .later }
def GramBracketsCardSaid : Prop := Claim7.holds Tryd.pinned (.plain (OpenSpec.ofChange gramBracketsSpec)) gramBracketsCard

/-- THE TIED CARD OF 'exitwavelaw6.GramTree'. -/
def gramTreeCard : Claim7 := { stood := { row := gramTreeRow, standIns := [], harness := (true, "e1b8758ffaeba2c5332dec01d9443fb3cb3939cb2b8de47a3d455ad7c99184cd"), looks := true }, kinds := [], alts := [], laidByText := true, laidKinds := [.listed, .data], laidTests := true, laidLooks := .later }
def GramTreeCardSaid : Prop := Claim7.holds Tryd.pinned (.plain (OpenSpec.ofChange gramTreeSpec)) gramTreeCard

/-- THE TIED CARD OF 'exitwavelaw6.GramBinds'. -/
def gramBindsCard : Claim7 := { stood := { row := gramBindsRow, standIns := [], harness := (true, "e1b8758ffaeba2c5332dec01d9443fb3cb3939cb2b8de47a3d455ad7c99184cd"), looks := true }, kinds := [], alts := [], laidByText := true, laidKinds := [.listed, .data], laidTests := true, laidLooks := .later }
def GramBindsCardSaid : Prop := Claim7.holds Tryd.pinned (.plain (OpenSpec.ofChange gramBindsSpec)) gramBindsCard

/-- THE TIED CARD OF 'exitwavelaw6.GramTwice'. -/
def gramTwiceCard : Claim7 := { stood := { row := gramTwiceRow, standIns := [], harness := (true, "e1b8758ffaeba2c5332dec01d9443fb3cb3939cb2b8de47a3d455ad7c99184cd"), looks := true }, kinds := [], alts := [], laidByText := true, laidKinds := [.listed, .data], laidTests := true, laidLooks := .later }
def GramTwiceCardSaid : Prop := Claim7.holds Tryd.pinned (.plain (OpenSpec.ofChange gramTwiceSpec)) gramTwiceCard

/-- THE SECOND FORM's CARD OF 'exitwavelaw6.GramBlanks'. -/
def gramBlanksUptoCard : Claim7 := { stood := { row := gramBlanksUptoRow, standIns := [], harness := (true, "e1b8758ffaeba2c5332dec01d9443fb3cb3939cb2b8de47a3d455ad7c99184cd"), looks := true }, kinds := [], alts := [], laidByText := true, laidKinds := [.listed, .data], laidTests := true, laidLooks := .later }
def GramBlanksUptoCardSaid : Prop := Claim7.holds Tryd.pinned (.plain (OpenSpec.upto gramBlanksSpec)) gramBlanksUptoCard

/-- THE SECOND FORM's CARD OF 'exitwavelaw6.GramBrackets'. -/
def gramBracketsUptoCard : Claim7 := { stood := { row := gramBracketsUptoRow, standIns := [], harness := (true, "e1b8758ffaeba2c5332dec01d9443fb3cb3939cb2b8de47a3d455ad7c99184cd"), looks := true }, kinds := [], alts := [], laidByText := true, laidKinds := [.listed, .data], laidTests := true, laidLooks := .later }
def GramBracketsUptoCardSaid : Prop := Claim7.holds Tryd.pinned (.plain (OpenSpec.upto gramBracketsSpec)) gramBracketsUptoCard

/-- THE SECOND FORM's CARD OF 'exitwavelaw6.GramTree'. -/
def gramTreeUptoCard : Claim7 := { stood := { row := gramTreeUptoRow, standIns := [], harness := (true, "e1b8758ffaeba2c5332dec01d9443fb3cb3939cb2b8de47a3d455ad7c99184cd"), looks := true }, kinds := [], alts := [], laidByText := true, laidKinds := [.listed, .data], laidTests := true, laidLooks := .later }
def GramTreeUptoCardSaid : Prop := Claim7.holds Tryd.pinned (.plain (OpenSpec.upto gramTreeSpec)) gramTreeUptoCard

/-- THE SECOND FORM's CARD OF 'exitwavelaw6.GramBinds'. -/
def gramBindsUptoCard : Claim7 := { stood := { row := gramBindsUptoRow, standIns := [], harness := (true, "e1b8758ffaeba2c5332dec01d9443fb3cb3939cb2b8de47a3d455ad7c99184cd"), looks := true }, kinds := [], alts := [], laidByText := true, laidKinds := [.listed, .data], laidTests := true, laidLooks := .later }
def GramBindsUptoCardSaid : Prop := Claim7.holds Tryd.pinned (.plain (OpenSpec.upto gramBindsSpec)) gramBindsUptoCard

/-- THE SECOND FORM's CARD OF 'exitwavelaw6.GramTwice'. -/
def gramTwiceUptoCard : Claim7 := { stood := { row := gramTwiceUptoRow, standIns := [], harness := (true, "e1b8758ffaeba2c5332dec01d9443fb3cb3939cb2b8de47a3d455ad7c99184cd"), looks := true }, kinds := [], alts := [], laidByText := true, laidKinds := [.listed, .data], laidTests := true, laidLooks := .later }
def GramTwiceUptoCardSaid : Prop := Claim7.holds Tryd.pinned (.plain (OpenSpec.upto gramTwiceSpec)) gramTwiceUptoCard
end Rows
end Go.Proofs.YtcphfgcfmphlfaaDoor
