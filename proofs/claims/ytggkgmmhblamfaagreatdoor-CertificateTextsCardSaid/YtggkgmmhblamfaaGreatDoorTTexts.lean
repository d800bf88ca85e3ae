/- 'unravellaw47.CertificateTexts' answers true for every proof value, and leaves it as it was. -/
import Derived.Test.YtggkgmmhblamfaaGreatDoorTFD
import Derived.Test.YtggkgmmhblamfaaGreatDoorTFE
import Derived.Test.YtggkgmmhblamfaaGreatDoorTFG
set_option linter.all false
namespace Go.Proofs.YtggkgmmhblamfaaGreatDoor
open Go.ChangeShapes Go.WideShapes Go.ChangeAt Go.RowKit Go.Ev
set_option maxRecDepth 1000000
/-- The card. -/
theorem texts_holds : Rows.CertificateTextsCardSaid :=
  Claim7.holds_tied_plain_at .later [] _ _ _ _ said3 (fun _ h => by cases h) card_wf3 (fun _ h => by cases h) certificateTexts_row_tie rfl ⟨rfl, rfl⟩ card_main rfl plain3 card_goes3
end Go.Proofs.YtggkgmmhblamfaaGreatDoor
