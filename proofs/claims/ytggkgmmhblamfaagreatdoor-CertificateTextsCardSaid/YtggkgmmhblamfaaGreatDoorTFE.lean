/- 'unravellaw47.CertificateTexts' answers true for every proof value, and leaves it as it was. -/
import Derived.Test.YtggkgmmhblamfaaGreatDoorTFC
set_option linter.all false
namespace Go.Proofs.YtggkgmmhblamfaaGreatDoor
open Go.ChangeShapes Go.WideShapes Go.ChangeAt Go.RowKit Go.Ev
set_option maxRecDepth 1000000
/-- No parameter wants a stand-in; the program's own looks are off: what the card asks. -/
theorem plain3 (f : FuncId) (fn : Func) (hf : Tryz.pinned.checked.prog.funcNamed "unravel/unravellaw47.CertificateTexts" = some f) (hfn : Tryz.pinned.checked.prog.funcs[f]? = some fn) :
    true = Tryz.pinned.checked.prog.looks [] ∧ ∀ (j : Nat) t, fn.params[j]? = some t → Tryz.pinned.checked.prog.wantsStandIn t = false := by
  obtain rfl : f = 3 := Option.some.inj ((show Tryz.prog.funcNamed "unravel/unravellaw47.CertificateTexts" = some 3 by kernel_rfl).symm.trans hf) |>.symm
  obtain rfl : fn = Tryz.f3 := (Option.some.inj (Tryz.func3.symm.trans hfn)).symm
  refine ⟨by kernel_rfl, fun j t ht => ?_⟩
  rw [Tryz.params3] at ht
  obtain rfl : t = 27 := by simpa using Array.mem_of_getElem? ht
  exact (show Tryz.prog.wantsStandIn 27 = false by kernel_rfl)
theorem card_wf3 : Rows.certificateTextsRow.wfByText (OpenSpec.ofChange Rows.certificateTextsSpec) = true := by kernel_rfl
theorem card_main : Tryz.pinned.checked.prog.mainIs = some (true, ("ad08e24b742668e9dc334d7600375bdfc34093f8b814dcc6823b931b54ff9518").toList) := by kernel_rfl
end Go.Proofs.YtggkgmmhblamfaaGreatDoor
