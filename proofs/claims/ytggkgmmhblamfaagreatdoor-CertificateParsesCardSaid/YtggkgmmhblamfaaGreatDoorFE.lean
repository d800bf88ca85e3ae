/- 'unravellaw47.CertificateParses' answers true for every text, and leaves the text as it was. -/
import Derived.Test.YtggkgmmhblamfaaGreatDoorFC
set_option linter.all false
namespace Go.Proofs.YtggkgmmhblamfaaGreatDoor
open Go.ChangeShapes Go.WideShapes Go.ChangeAt Go.RowKit Go.Ev
set_option maxRecDepth 1000000
/-- No parameter wants a stand-in; the program's own looks are off: what the card asks. -/
theorem plain4 (f : FuncId) (fn : Func) (hf : Tryz.pinned.checked.prog.funcNamed "unravel/unravellaw47.CertificateParses" = some f) (hfn : Tryz.pinned.checked.prog.funcs[f]? = some fn) :
    true = Tryz.pinned.checked.prog.looks [] ∧ ∀ (j : Nat) t, fn.params[j]? = some t → Tryz.pinned.checked.prog.wantsStandIn t = false := by
  obtain rfl : f = 4 := Option.some.inj ((show Tryz.prog.funcNamed "unravel/unravellaw47.CertificateParses" = some 4 by kernel_rfl).symm.trans hf) |>.symm
  obtain rfl : fn = Tryz.f4 := (Option.some.inj (Tryz.func4.symm.trans hfn)).symm
  refine ⟨by kernel_rfl, fun j t ht => ?_⟩
  rw [Tryz.params4] at ht
  obtain rfl : t = 9 := by simpa using Array.mem_of_getElem? ht
  exact (show Tryz.prog.wantsStandIn 9 = false by kernel_rfl)
theorem card_wf4 : Rows.certificateParsesRow.wfByText (OpenSpec.ofChange Rows.certificateParsesSpec) = true := by kernel_rfl
theorem card_main : Tryz.pinned.checked.prog.mainIs = some (true, ("ad08e24b742668e9dc334d7600375bdfc34093f8b814dcc6823b931b54ff9518").toList) := by kernel_rfl
end Go.Proofs.YtggkgmmhblamfaaGreatDoor
