/- A closed fact of the card: what the row tells of goroutines. -/
import Derived.Test.YtggkgmmhblamfaaGreatDoorRows
import Derived.Test.YtggkgmmhblamfaaGreatDoorCards
import Derived.KernelRfl
set_option linter.all false
namespace Go.Proofs.YtggkgmmhblamfaaGreatDoor
set_option maxRecDepth 1000000
theorem card_goes3 : false = Rows.certificateTextsRow.goesBy Tryz.pinned.checked.prog := by kernel_rfl
end Go.Proofs.YtggkgmmhblamfaaGreatDoor
