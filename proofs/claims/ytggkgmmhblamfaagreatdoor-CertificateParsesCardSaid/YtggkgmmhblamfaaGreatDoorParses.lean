/- 'unravellaw47.CertificateParses' answers true for every text, and leaves the text as it was. -/
import Derived.Test.YtggkgmmhblamfaaGreatDoorFD
import Derived.Test.YtggkgmmhblamfaaGreatDoorFE
import Derived.Test.YtggkgmmhblamfaaGreatDoorFG
set_option linter.all false
namespace Go.Proofs.YtggkgmmhblamfaaGreatDoor
open Go.ChangeShapes Go.WideShapes Go.ChangeAt Go.RowKit Go.Ev
set_option maxRecDepth 1000000
/-- The card. -/
theorem parses_holds : Rows.CertificateParsesCardSaid :=
  Claim7.holds_tied_plain_at .later [] _ _ _ _ said4 (fun _ h => by cases h) card_wf4 (fun _ h => by cases h) certificateParses_row_tie rfl ⟨rfl, rfl⟩ card_main rfl plain4 card_goes4
end Go.Proofs.YtggkgmmhblamfaaGreatDoor
