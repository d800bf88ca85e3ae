/- 'unravellaw47.CertificateParses' answers true for every text, and leaves the text as it was. -/
import Derived.Test.YtggkgmmhblamfaaGreatDoorFA
set_option linter.all false
namespace Go.Proofs.YtggkgmmhblamfaaGreatDoor
open Go.ChangeShapes Go.WideShapes Go.ChangeAt Go.RowKit Go.Ev
open Go.ChangeMaps (open_string shut_string)
set_option maxRecDepth 1000000
/-- A listed datum's cells. -/
def litV : DataW Unit → Value
  | .lit (.int k n) => .int k n
  | _ => .bool false
def lits : DataW Unit → List Value
  | .agg l => l.map litV
  | d => [litV d]
def litss : DataW Unit → List Value
  | .agg l => l.flatMap lits
  | d => [litV d]
noncomputable def setG (g : Nat) (cs : List Value) (w : World) : World :=
  { w with heap := w.heap.modify g fun
      | .cells _ t frozen => .cells cs.toArray t frozen
      | o => o }
/-- A world for the witness: each listed variable holds what is listed. -/
noncomputable def laidWorld (os : Os) : World :=
  let w := World.holding Tryz.prog os ⟨#[], #[], []⟩
  let n := w.heap.size
  let w := (w.alloc (.cells #[.string ⟨#[105, 110, 118, 97, 108, 105, 100, 32, 115, 121, 110, 116, 97, 120]⟩] 290)).alloc (.cells #[.string ⟨#[118, 97, 108, 117, 101, 32, 111, 117, 116, 32, 111, 102, 32, 114, 97, 110, 103, 101]⟩] 290)
  setG 6 (lits Rows.laid_math_bits_deBruijn32tab) (setG 7 (lits Rows.laid_math_bits_deBruijn64tab) (setG 3 (lits Rows.laid_internal_strconv_uint64pow10) (setG 5 (litss Rows.laid_unicode_utf8_acceptRanges) (setG 4 (lits Rows.laid_unicode_utf8_first)
    (setG 1 [.iface 288 (.pointer (some ⟨n, 0, none⟩))] (setG 2 [.iface 288 (.pointer (some ⟨n + 1, 0, none⟩))] w))))))
theorem laid_met (os : Os) : laidMet Tryz.prog Rows.certificateParsesRow.laid ((laidWorld os).forCall (fun _ _ => 0) ⟨#[], #[.string .empty], []⟩).memory :=
  laidMet_of_run' 8 (by kernel_rfl) (by kernel_rfl)
theorem reads (os : Os) {H : Type} (enc : TypeId × Value → H) : ∃ places, DataW.whole enc Tryz.prog ((laidWorld os).forCall (fun _ _ => 0) ⟨#[], #[.string .empty], []⟩).memory Tryz.f4.params.toList Rows.certificateParsesSpec.vars false #[Value.string .empty].toList 8 = some ([.lit (.string [])], [], places) :=
  ⟨[], by kernel_rfl⟩
end Go.Proofs.YtggkgmmhblamfaaGreatDoor
