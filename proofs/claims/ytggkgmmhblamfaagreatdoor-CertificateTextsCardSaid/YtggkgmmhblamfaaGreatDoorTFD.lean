/- 'unravellaw47.CertificateTexts' answers true for every proof value, and leaves it as it was. -/
import Derived.Test.YtggkgmmhblamfaaGreatDoorTFC
import Derived.Test.YtggkgmmhblamfaaGreatDoorTJF
set_option linter.all false
namespace Go.Proofs.YtggkgmmhblamfaaGreatDoor
open Go.ChangeShapes Go.WideShapes Go.ChangeAt Go.RowKit Go.Ev
set_option maxRecDepth 1000000
theorem said3 : Rows.CertificateTextsSaid :=
  OpenClaim.holds_of_cond 3 Tryz.f3 rfl rfl rfl rfl rfl rfl rfl ⟨rfl, rfl, rfl, rfl, rfl⟩ rfl rfl rfl rfl rfl (by kernel_rfl) Tryz.func3 jfT.closed
    (of_decide_eq_true (by kernel_rfl)) (by unfold Func.isWrapper; first | (rw [if_pos (by decide +kernel)]; kernel_rfl) | (rw [if_neg (by decide +kernel)]; exact ⟨rfl, rfl⟩))
    (fun os started H enc _ F => by rw [OpenClaim.pre_eq_preRow]; exact lifted3 os started H enc F)
end Go.Proofs.YtggkgmmhblamfaaGreatDoor
