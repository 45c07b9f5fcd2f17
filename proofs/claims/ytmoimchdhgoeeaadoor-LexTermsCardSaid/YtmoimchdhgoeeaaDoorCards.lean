/-
  DERIVED. GIVEN WITH THE SEED: THE CARDS: each row of YtmoimchdhgoeeaaDoorRows.lean that lists a variable, with what it lists TIED to the program's text (the seventh form; the later family's looks); each row that meets fmt, with fmt's text TOLD by the authors' own Lean function (tested against real Go, not proved from fmt's source: count such statements apart). THE CARD IS WHAT COUNTS. Prove the row's statement (the work); the ties are given (YtmoimchdhgoeeaaDoorTie.lean); close each card by the builder's one call (the guide's Derived/Test/ToyasCard.lean, 'card_holds'). Laid BY PROGRAM, IN A SANDBOX (cutbox-door.mjs). By AI agents, Wed Nov 11 2026. No macro, syntax, notation, axiom, sorry.
-/
import Derived.Test.YtmoimchdhgoeeaaDoorRows
import GoSem.ClaimSeven
namespace Go.Proofs.YtmoimchdhgoeeaaDoor
namespace Rows

/-- THE TIED CARD OF 'exitwavelaw5.LexTokens'. -/
def lexTokensCard : Claim7 := { stood := { row := lexTokensRow, standIns := [], harness := (true, "f163c50bf504f3a4215a70944773d79dc79769d051773f70525d0651fa133124"), looks := false }, kinds := [], alts := [], laidByText := true, laidKinds := [.listed, .data], laidTests := true, laidLooks := .later }
def LexTokensCardSaid : Prop := Claim7.holds Tryd.pinned (.plain (OpenSpec.ofChange lexTokensSpec)) lexTokensCard

/-- THE TIED CARD OF 'exitwavelaw5.LexLong'. -/
def lexLongCard : Claim7 := { stood := { row := lexLongRow, standIns := [], harness := (true, "f163c50bf504f3a4215a70944773d79dc79769d051773f70525d0651fa133124"), looks := false }, kinds := [], alts := [], laidByText := true, laidKinds := [.listed, .data], laidTests := true, laidLooks := .later }
def LexLongCardSaid : Prop := Claim7.holds Tryd.pinned (.plain (OpenSpec.ofChange lexLongSpec)) lexLongCard

/-- THE TIED CARD OF 'exitwavelaw5.LexKept'. -/
def lexKeptCard : Claim7 := { stood := { row := lexKeptRow, standIns := [], harness := (true, "f163c50bf504f3a4215a70944773d79dc79769d051773f70525d0651fa133124"), looks := false }, kinds := [], alts := [], laidByText := true, laidKinds := [.listed, .data], laidTests := true, laidLooks := .later }
def LexKeptCardSaid : Prop := Claim7.holds Tryd.pinned (.plain (OpenSpec.ofChange lexKeptSpec)) lexKeptCard

/-- THE TIED CARD OF 'exitwavelaw5.LexAlone'. -/
def lexAloneCard : Claim7 := { stood := { row := lexAloneRow, standIns := [], harness := (true, "f163c50bf504f3a4215a70944773d79dc79769d051773f70525d0651fa133124"), looks := false }, kinds := [], alts := [], laidByText := true, laidKinds := [.listed, .data], laidTests := true, laidLooks := .later }
def LexAloneCardSaid : Prop := Claim7.holds Tryd.pinned (.plain (OpenSpec.ofChange lexAloneSpec)) lexAloneCard

/-- THE TIED CARD OF 'exitwavelaw5.LexFloats'. -/
def lexFloatsCard : Claim7 := { stood := { row := lexFloatsRow, standIns := [], harness := (true, "f163c50bf504f3a4215a70944773d79dc79769d051773f70525d0651fa133124"), looks := false }, kinds := [], alts := [], laidByText := true, laidKinds := [.listed, .data], laidTests := true, laidLooks := .later }
def LexFloatsCardSaid : Prop := Claim7.holds Tryd.pinned (.plain (OpenSpec.ofChange lexFloatsSpec)) lexFloatsCard

/-- THE TIED CARD OF 'exitwavelaw5.LexTerms'. -/
def lexTermsCard : Claim7 := { stood := { row := lexTermsRow, standIns := [], harness := (true, "f163c50bf504f3a4215a70944773d79dc79769d051773f70525d0651fa133124"), looks := false }, kinds := [], alts := [], laidByText := true, laidKinds := [.listed, .data], laidTests := true, laidLooks := .later }
def LexTermsCardSaid : Prop := Claim7.holds Tryd.pinned (.plain (OpenSpec.ofChange lexTermsSpec)) lexTermsCard

/-- THE SECOND FORM's CARD OF 'exitwavelaw5.LexTokens'. -/
def lexTokensUptoCard : Claim7 := { stood := { row := lexTokensUptoRow, standIns := [], harness := (true, "f163c50bf504f3a4215a70944773d79dc79769d051773f70525d0651fa133124"), looks := false }, kinds := [], alts := [], laidByText := true, laidKinds := [.listed, .data], laidTests := true, laidLooks := .later }
def LexTokensUptoCardSaid : Prop := Claim7.holds Tryd.pinned (.plain (OpenSpec.upto lexTokensSpec)) lexTokensUptoCard

/-- THE SECOND FORM's CARD OF 'exitwavelaw5.LexLong'. -/
def lexLongUptoCard : Claim7 := { stood := { row := lexLongUptoRow, standIns := [], harness := (true, "f163c50bf504f3a4215a70944773d79dc79769d051773f70525d0651fa133124"), looks := false }, kinds := [], alts := [], laidByText := true, laidKinds := [.listed, .data], laidTests := true, laidLooks := .later }
def LexLongUptoCardSaid : Prop := Claim7.holds Tryd.pinned (.plain (OpenSpec.upto lexLongSpec)) lexLongUptoCard

/-- THE SECOND FORM's CARD OF 'exitwavelaw5.LexKept'. -/
def lexKeptUptoCard : Claim7 := { stood := { row := lexKeptUptoRow, standIns := [], harness := (true, "f163c50bf504f3a4215a70944773d79dc79769d051773f70525d0651fa133124"), looks := false }, kinds := [], alts := [], laidByText := true, laidKinds := [.listed, .data], laidTests := true, laidLooks := .later }
def LexKeptUptoCardSaid : Prop := Claim7.holds Tryd.pinned (.plain (OpenSpec.upto lexKeptSpec)) lexKeptUptoCard

/-- THE SECOND FORM's CARD OF 'exitwavelaw5.LexAlone'. -/
def lexAloneUptoCard : Claim7 := { stood := { row := lexAloneUptoRow, standIns := [], harness := (true, "f163c50bf504f3a4215a70944773d79dc79769d051773f70525d0651fa133124"), looks := false }, kinds := [], alts := [], laidByText := true, laidKinds := [.listed, .data], laidTests := true, laidLooks := .later }
def LexAloneUptoCardSaid : Prop := Claim7.holds Tryd.pinned (.plain (OpenSpec.upto lexAloneSpec)) lexAloneUptoCard

/-- THE SECOND FORM's CARD OF 'exitwavelaw5.LexFloats'. -/
def lexFloatsUptoCard : Claim7 := { stood := { row := lexFloatsUptoRow, standIns := [], harness := (true, "f163c50bf504f3a4215a70944773d79dc79769d051773f70525d0651fa133124"), looks := false }, kinds := [], alts := [], laidByText := true, laidKinds := [.listed, .data], laidTests := true, laidLooks := .later }
def LexFloatsUptoCardSaid : Prop := Claim7.holds Tryd.pinned (.plain (OpenSpec.upto lexFloatsSpec)) lexFloatsUptoCard

/-- THE SECOND FORM's CARD OF 'exitwavelaw5.LexTerms'. -/
def lexTermsUptoCard : Claim7 := { stood := { row := lexTermsUptoRow, standIns := [], harness := (true, "f163c50bf504f3a4215a70944773d79dc79769d051773f70525d0651fa133124"), looks := false }, kinds := [], alts := [], laidByText := true, laidKinds := [.listed, .data], laidTests := true, laidLooks := .later }
def LexTermsUptoCardSaid : Prop := Claim7.holds Tryd.pinned (.plain (OpenSpec.upto lexTermsSpec)) lexTermsUptoCard
end Rows
end Go.Proofs.YtmoimchdhgoeeaaDoor
