/-
  DERIVED. GIVEN WITH THE SEED: THE CARDS: each row of YtggkgmmhblamfaaGreatDoorRows.lean that lists a variable, with what it lists TIED to the program's text (the seventh form; the later family's looks); each row that meets fmt, with fmt's text TOLD by the authors' own Lean function (tested against real Go, not proved from fmt's source: count such statements apart). THE CARD IS WHAT COUNTS. Prove the row's statement (the work); the ties are given (YtggkgmmhblamfaaGreatDoorTie.lean); close each card by the builder's one call (the guide's Derived/Test/ToyasCard.lean, 'card_holds'). Laid BY PROGRAM, IN A SANDBOX (cutbox-door.mjs). By AI agents, Wed Nov 11 2026. No macro, syntax, notation, axiom, sorry.
-/
import Derived.Test.YtggkgmmhblamfaaGreatDoorRows
import GoSem.ClaimSeven
namespace Go.Proofs.YtggkgmmhblamfaaGreatDoor
namespace Rows

/-- THE TIED CARD OF 'unravellaw47.CertificateTexts'. -/
def certificateTextsCard : Claim7 := { stood := { row := certificateTextsRow, standIns := [], harness := (true, "ad08e24b742668e9dc334d7600375bdfc34093f8b814dcc6823b931b54ff9518"), looks := true }, kinds := [], alts := [], laidByText := true, laidKinds := [.data, .data, .data, .data, .sentinel, .sentinel, .pinned], laidTests := true, laidLooks := .later }
def CertificateTextsCardSaid : Prop := Claim7.holds Tryz.pinned (.plain (OpenSpec.ofChange certificateTextsSpec)) certificateTextsCard

/-- THE TIED CARD OF 'unravellaw47.CertificateParses'. -/
def certificateParsesCard : Claim7 := { stood := { row := certificateParsesRow, standIns := [], harness := (true, "ad08e24b742668e9dc334d7600375bdfc34093f8b814dcc6823b931b54ff9518"), looks := true }, kinds := [], alts := [], laidByText := true, laidKinds := [.data, .data, .data, .data, .sentinel, .sentinel, .pinned], laidTests := true, laidLooks := .later }
def CertificateParsesCardSaid : Prop := Claim7.holds Tryz.pinned (.plain (OpenSpec.ofChange certificateParsesSpec)) certificateParsesCard

/-- THE SECOND FORM's CARD OF 'unravellaw47.CertificateTexts'. -/
def certificateTextsUptoCard : Claim7 := { stood := { row := certificateTextsUptoRow, standIns := [], harness := (true, "ad08e24b742668e9dc334d7600375bdfc34093f8b814dcc6823b931b54ff9518"), looks := true }, kinds := [], alts := [], laidByText := true, laidKinds := [.data, .data, .data, .data, .sentinel, .sentinel, .pinned], laidTests := true, laidLooks := .later }
def CertificateTextsUptoCardSaid : Prop := Claim7.holds Tryz.pinned (.plain (OpenSpec.upto certificateTextsSpec)) certificateTextsUptoCard

/-- THE SECOND FORM's CARD OF 'unravellaw47.CertificateParses'. -/
def certificateParsesUptoCard : Claim7 := { stood := { row := certificateParsesUptoRow, standIns := [], harness := (true, "ad08e24b742668e9dc334d7600375bdfc34093f8b814dcc6823b931b54ff9518"), looks := true }, kinds := [], alts := [], laidByText := true, laidKinds := [.data, .data, .data, .data, .sentinel, .sentinel, .pinned], laidTests := true, laidLooks := .later }
def CertificateParsesUptoCardSaid : Prop := Claim7.holds Tryz.pinned (.plain (OpenSpec.upto certificateParsesSpec)) certificateParsesUptoCard
end Rows
end Go.Proofs.YtggkgmmhblamfaaGreatDoor
