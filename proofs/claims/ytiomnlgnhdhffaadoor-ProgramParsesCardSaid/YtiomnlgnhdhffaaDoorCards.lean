/-
  DERIVED. GIVEN WITH THE SEED: THE CARDS: each row of YtiomnlgnhdhffaaDoorRows.lean that lists a variable, with what it lists TIED to the program's text (the seventh form; the later family's looks); each row that meets fmt, with fmt's text TOLD by the authors' own Lean function (tested against real Go, not proved from fmt's source: count such statements apart). THE CARD IS WHAT COUNTS. Prove the row's statement (the work); the ties are given (YtiomnlgnhdhffaaDoorTie.lean); close each card by the builder's one call (the guide's Derived/Test/ToyasCard.lean, 'card_holds'). Laid BY PROGRAM, IN A SANDBOX (cutbox-door.mjs). By AI agents, Wed Nov 11 2026. No macro, syntax, notation, axiom, sorry.
-/
import Derived.Test.YtiomnlgnhdhffaaDoorRows
import GoSem.ClaimSeven
namespace Go.Proofs.YtiomnlgnhdhffaaDoor
namespace Rows

/-- THE TIED CARD OF 'estoverslaw45.ProgramChecks'. -/
def programChecksCard : Claim7 := { stood := { row := programChecksRow, standIns := [], harness := (true, "9459d833ef018cf8a0f364d05f166f536e158a87b9517e27c76caf625baf2073"), looks := false }, kinds := [], alts := [], laidByText := true, laidKinds := [.data, .data, .data, .data, .pinned], laidTests := true, laidLooks := .later }
def ProgramChecksCardSaid : Prop := Claim7.holds Tryd.pinned (.plain (OpenSpec.ofChange programChecksSpec)) programChecksCard

/-- THE TIED CARD OF 'estoverslaw45.ProgramParses'. -/
def programParsesCard : Claim7 := { stood := { row := programParsesRow, standIns := [], harness := (true, "9459d833ef018cf8a0f364d05f166f536e158a87b9517e27c76caf625baf2073"), looks := false }, kinds := [], alts := [], laidByText := true, laidKinds := [.data, .data, .data, .data, .pinned], laidTests := true, laidLooks := .later }
def ProgramParsesCardSaid : Prop := Claim7.holds Tryd.pinned (.plain (OpenSpec.ofChange programParsesSpec)) programParsesCard

/-- THE TIED CARD OF 'estoverslaw45.ProgramFormats'. -/
def programFormatsCard : Claim7 := { stood := { row := programFormatsRow, standIns := [], harness := (true, "9459d833ef018cf8a0f364d05f166f536e158a87b9517e27c76caf625baf2073"), looks := false }, kinds := [], alts := [], laidByText := true, laidKinds := [.data, .data, .data, .data, .pinned], laidTests := true, laidLooks := .later }
def ProgramFormatsCardSaid : Prop := Claim7.holds Tryd.pinned (.plain (OpenSpec.ofChange programFormatsSpec)) programFormatsCard

/-- THE TIED CARD OF 'estoverslaw45.ProgramBack'. -/
def programBackCard : Claim7 := { stood := { row := programBackRow, standIns := [], harness := (true, "9459d833ef018cf8a0f364d05f166f536e158a87b9517e27c76caf625baf2073"), looks := false }, kinds := [], alts := [], laidByText := true, laidKinds := [.data, .data, .data, .data, .pinned], laidTests := true, laidLooks := .later }
def ProgramBackCardSaid : Prop := Claim7.holds Tryd.pinned (.plain (OpenSpec.ofChange programBackSpec)) programBackCard

/-- THE TIED CARD OF 'estoverslaw45.ProgramText'. -/
def programTextCard : Claim7 := { stood := { row := programTextRow, standIns := [], harness := (true, "9459d833ef018cf8a0f364d05f166f536e158a87b9517e27c76caf625baf2073"), looks := false }, kinds := [], alts := [], laidByText := true, laidKinds := [.data, .data, .data, .data, .pinned], laidTests := true, laidLooks := .later }
def ProgramTextCardSaid : Prop := Claim7.holds Tryd.pinned (.plain (OpenSpec.ofChange programTextSpec)) programTextCard

/-- THE TIED CARD OF 'estoverslaw45.ProgramJoins'. -/
def programJoinsCard : Claim7 := { stood := { row := programJoinsRow, standIns := [], harness := (true, "9459d833ef018cf8a0f364d05f166f536e158a87b9517e27c76caf625baf2073"), looks := false }, kinds := [], alts := [], laidByText := true, laidKinds := [.data, .data, .data, .data, .pinned], laidTests := true, laidLooks := .later }
def ProgramJoinsCardSaid : Prop := Claim7.holds Tryd.pinned (.plain (OpenSpec.ofChange programJoinsSpec)) programJoinsCard

/-- THE TIED CARD OF 'estoverslaw45.ProgramLines'. -/
def programLinesCard : Claim7 := { stood := { row := programLinesRow, standIns := [], harness := (true, "9459d833ef018cf8a0f364d05f166f536e158a87b9517e27c76caf625baf2073"), looks := false }, kinds := [], alts := [], laidByText := true, laidKinds := [.data, .data, .data, .data, .pinned], laidTests := true, laidLooks := .later }
def ProgramLinesCardSaid : Prop := Claim7.holds Tryd.pinned (.plain (OpenSpec.ofChange programLinesSpec)) programLinesCard

/-- THE SECOND FORM's CARD OF 'estoverslaw45.ProgramChecks'. -/
def programChecksUptoCard : Claim7 := { stood := { row := programChecksUptoRow, standIns := [], harness := (true, "9459d833ef018cf8a0f364d05f166f536e158a87b9517e27c76caf625baf2073"), looks := false }, kinds := [], alts := [], laidByText := true, laidKinds := [.data, .data, .data, .data, .pinned], laidTests := true, laidLooks := .later }
def ProgramChecksUptoCardSaid : Prop := Claim7.holds Tryd.pinned (.plain (OpenSpec.upto programChecksSpec)) programChecksUptoCard

/-- THE SECOND FORM's CARD OF 'estoverslaw45.ProgramParses'. -/
def programParsesUptoCard : Claim7 := { stood := { row := programParsesUptoRow, standIns := [], harness := (true, "9459d833ef018cf8a0f364d05f166f536e158a87b9517e27c76caf625baf2073"), looks := false }, kinds := [], alts := [], laidByText := true, laidKinds := [.data, .data, .data, .data, .pinned], laidTests := true, laidLooks := .later }
def ProgramParsesUptoCardSaid : Prop := Claim7.holds Tryd.pinned (.plain (OpenSpec.upto programParsesSpec)) programParsesUptoCard

/-- THE SECOND FORM's CARD OF 'estoverslaw45.ProgramFormats'. -/
def programFormatsUptoCard : Claim7 := { stood := { row := programFormatsUptoRow, standIns := [], harness := (true, "9459d833ef018cf8a0f364d05f166f536e158a87b9517e27c76caf625baf2073"), looks := false }, kinds := [], alts := [], laidByText := true, laidKinds := [.data, .data, .data, .data, .pinned], laidTests := true, laidLooks := .later }
def ProgramFormatsUptoCardSaid : Prop := Claim7.holds Tryd.pinned (.plain (OpenSpec.upto programFormatsSpec)) programFormatsUptoCard

/-- THE SECOND FORM's CARD OF 'estoverslaw45.ProgramBack'. -/
def programBackUptoCard : Claim7 := { stood := { row := programBackUptoRow, standIns := [], harness := (true, "9459d833ef018cf8a0f364d05f166f536e158a87b9517e27c76caf625baf2073"), looks := false }, kinds := [], alts := [], laidByText := true, laidKinds := [.data, .data, .data, .data, .pinned], laidTests := true, laidLooks := .later }
def ProgramBackUptoCardSaid : Prop := Claim7.holds Tryd.pinned (.plain (OpenSpec.upto programBackSpec)) programBackUptoCard

/-- THE SECOND FORM's CARD OF 'estoverslaw45.ProgramText'. -/
def programTextUptoCard : Claim7 := { stood := { row := programTextUptoRow, standIns := [], harness := (true, "9459d833ef018cf8a0f364d05f166f536e158a87b9517e27c76caf625baf2073"), looks := false }, kinds := [], alts := [], laidByText := true, laidKinds := [.data, .data, .data, .data, .pinned], laidTests := true, laidLooks := .later }
def ProgramTextUptoCardSaid : Prop := Claim7.holds Tryd.pinned (.plain (OpenSpec.upto programTextSpec)) programTextUptoCard

/-- THE SECOND FORM's CARD OF 'estoverslaw45.ProgramJoins'. -/
def programJoinsUptoCard : Claim7 := { stood := { row := programJoinsUptoRow, standIns := [], harness := (true, "9459d833ef018cf8a0f364d05f166f536e158a87b9517e27c76caf625baf2073"), looks := false }, kinds := [], alts := [], laidByText := true, laidKinds := [.data, .data, .data, .data, .pinned], laidTests := true, laidLooks := .later }
def ProgramJoinsUptoCardSaid : Prop := Claim7.holds Tryd.pinned (.plain (OpenSpec.upto programJoinsSpec)) programJoinsUptoCard

/-- THE SECOND FORM's CARD OF 'estoverslaw45.ProgramLines'. -/
def programLinesUptoCard : Claim7 := { stood := { row := programLinesUptoRow, standIns := [], harness := (true, "9459d833ef018cf8a0f364d05f166f536e158a87b9517e27c76caf625baf2073"), looks := false }, kinds := [], alts := [], laidByText := true, laidKinds := [.data, .data, .data, .data, .pinned], laidTests := true, laidLooks := .later }
def ProgramLinesUptoCardSaid : Prop := Claim7.holds Tryd.pinned (.plain (OpenSpec.upto programLinesSpec)) programLinesUptoCard
end Rows
end Go.Proofs.YtiomnlgnhdhffaaDoor
