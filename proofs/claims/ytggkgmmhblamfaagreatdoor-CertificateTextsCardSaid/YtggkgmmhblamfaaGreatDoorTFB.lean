/- A proof value, read: what it is made of. -/
import Derived.Test.YtggkgmmhblamfaaGreatDoorTWN
import Derived.Test.YtggkgmmhblamfaaGreatDoorTFA
import Derived.ChangeSame
import Derived.ChangeArms
import Derived.Deep.Slices
import Derived.ReadAgain
import Derived.ChangeSlices
import Derived.Test.YtggkgmmhblamfaaGreatDoorTSum
set_option linter.all false
namespace Go.Proofs.YtggkgmmhblamfaaGreatDoor
open Go.ChangeShapes Go.WideShapes Go.ChangeAt Go.RowKit Go.Ev
set_option maxRecDepth 1000000
section
variable {H : Type} {enc : TypeId × Value → H} {W : World}
theorem cells3 : Tryz.prog.cellsOf 3 = 1 := by kernel_rfl
theorem cells22 : Tryz.prog.cellsOf 22 = 1 := by kernel_rfl
theorem cells24 : Tryz.prog.cellsOf 24 = 1 := by kernel_rfl
theorem cells25 : Tryz.prog.cellsOf 25 = 1 := by kernel_rfl
theorem cells27 : Tryz.prog.cellsOf 27 = 4 := by kernel_rfl
theorem open_row {fuel : Nat} {cs : List Value} {x : DataW H × List MemPlace} (h : DataW.trod enc Tryz.prog W 0 (fun _ => true) true fuel 25 cs = some x) : ∃ (v : Value) (l : List Int), cs = [v] ∧ SlV W v l.length (intV l) := by
  rcases open_ints Tryz.underlying25 Tryz.underlying3 cells3 h with ⟨rfl, _⟩ | ⟨a, len, cap, zs, rfl, _, hl, _, hz, _, hc, _⟩
  · exact ⟨_, [], rfl, .inl ⟨rfl, rfl⟩⟩
  · rw [if_pos rfl] at hz
    have hlen : (zs.take len).length = len := by rw [List.length_take]; omega
    refine ⟨_, zs.take len, rfl, .inr ⟨a, cap, by rw [hlen], fun i hi => ?_⟩⟩
    rw [hlen] at hi
    rw [hc i (by omega)]
    unfold intV
    rw [List.getD_eq_getElem?_getD, List.getD_eq_getElem?_getD, List.getElem?_take_of_lt hi]
theorem open_tab {fuel : Nat} {cs : List Value} {x : DataW H × List MemPlace} (h : DataW.trod enc Tryz.prog W 0 (fun _ => true) true fuel 22 cs = some x) :
    ∃ (v : Value) (t : List (List Int)) (rv : Nat → Value), cs = [v] ∧ SlV W v t.length rv ∧ ∀ (i : Nat) (r : List Int), t[i]? = some r → SlV W (rv i) r.length (intV r) := by
  rcases Deep.open_slice1 Tryz.underlying22 cells25 h with ⟨rfl, _⟩ | ⟨a, len, cap, m, n, V, D, Pl, rfl, _, hl, _, hm, _, hc⟩
  · exact ⟨_, [], fun _ => .bool false, rfl, .inl ⟨rfl, rfl⟩, fun i r hi => by cases hi⟩
  · rw [if_pos rfl] at hm
    obtain ⟨f, hf⟩ := Deep.choose_lt (α := List Int) (n := len) (p := fun i r => SlV W (V i) r.length (intV r)) fun i hi => by
      obtain ⟨v, l, h1, h2⟩ := open_row (hc i (by omega)).2
      cases h1
      exact ⟨l, h2⟩
    have hlen : ((List.range len).map f).length = len := by simp
    refine ⟨_, (List.range len).map f, V, rfl, .inr ⟨a, cap, by rw [hlen], fun i hi => (hc i (by omega)).1⟩, fun i r hi => ?_⟩
    have hin : i < len := by
      have := (List.getElem?_eq_some_iff.1 hi).1
      omega
    rw [List.getElem?_map, List.getElem?_range hin] at hi
    cases hi
    exact hf i hin
theorem open_proof {v : Value} {d : DataW H} {ps : List MemPlace} (hv : Value.okWide Tryz.prog W .any 0 27 v ∨ ∃ base, Value.okWide Tryz.prog W .any base 27 v) (h : DataW.Trod enc Tryz.prog W 0 (fun _ => true) true 27 v d ps) :
    ∃ (k m : Int) (tb cy : Value) (t : List (List Int)) (l : List Int) (rv : Nat → Value), v = .agg #[.int .i64 k, .int .i64 m, tb, cy] ∧ (-9223372036854775808 ≤ m ∧ m ≤ 9223372036854775807) ∧ SlV W tb t.length rv ∧ (∀ (i : Nat) (r : List Int), t[i]? = some r → SlV W (rv i) r.length (intV r)) ∧ SlV W cy l.length (intV l) := by
  obtain ⟨base, hv⟩ : ∃ base, Value.okWide Tryz.prog W .any base 27 v := hv.elim (fun h => ⟨0, h⟩) id
  obtain ⟨cs, rfl, hs⟩ := okWide_struct Tryz.underlying27 hv
  rw [cells27] at hs
  obtain ⟨a0, a1, a2, a3, rfl⟩ : ∃ a0 a1 a2 a3, cs = #[a0, a1, a2, a3] := by
    obtain ⟨l⟩ := cs
    match l, hs with
    | [a0, a1, a2, a3], _ => exact ⟨a0, a1, a2, a3, rfl⟩
  obtain ⟨fuel, h⟩ := h
  obtain ⟨xs, n, _, _, _, hlen, hf⟩ := DataW.trod_struct Tryz.underlying27 h
  match xs, hlen with
  | [x0, x1, x2, x3], _ =>
    have h0 : DataW.trod enc Tryz.prog W 0 (fun _ => true) true n 3 [a0] = some x0 := by
      have := hf 0 _ rfl
      change DataW.trod enc Tryz.prog W 0 (fun _ => true) true n 3 (List.take (Tryz.prog.cellsOf 3) [a0, a1, a2, a3]) = some x0 at this
      rw [cells3] at this
      exact this
    have h1 : DataW.trod enc Tryz.prog W 0 (fun _ => true) true n 3 [a1] = some x1 := by
      have := hf 1 _ rfl
      change DataW.trod enc Tryz.prog W 0 (fun _ => true) true n 3 (List.take (Tryz.prog.cellsOf 3) [a1, a2, a3]) = some x1 at this
      rw [cells3] at this
      exact this
    have h2 : DataW.trod enc Tryz.prog W 0 (fun _ => true) true n 24 [a2] = some x2 := by
      have := hf 2 _ rfl
      change DataW.trod enc Tryz.prog W 0 (fun _ => true) true n 24 (List.take (Tryz.prog.cellsOf 24) [a2, a3]) = some x2 at this
      rw [cells24] at this
      exact this
    have h3 : DataW.trod enc Tryz.prog W 0 (fun _ => true) true n 25 [a3] = some x3 := by
      have := hf 3 _ rfl
      change DataW.trod enc Tryz.prog W 0 (fun _ => true) true n 25 (List.take (Tryz.prog.cellsOf 25) [a3]) = some x3 at this
      rw [cells25] at this
      exact this
    obtain ⟨y, n', _, _, h2'⟩ := trod_struct1 Tryz.underlying24 h2
    rw [cells22] at h2'
    obtain ⟨k, hk, _⟩ := DataW.trod_int Tryz.underlying3 h0
    obtain ⟨m, hm, hm'⟩ := DataW.trod_int Tryz.underlying3 h1
    obtain ⟨tb, t, rv, e2, q0, qr⟩ := open_tab h2'
    obtain ⟨cy, l, e3, qc⟩ := open_row h3
    cases hk
    cases hm
    cases e2
    cases e3
    exact ⟨k, m, a2, a3, t, l, rv, rfl, bounds_i64 hm'.2, q0, qr, qc⟩
end
end Go.Proofs.YtggkgmmhblamfaaGreatDoor
namespace Go.Proofs.YtggkgmmhblamfaaGreatDoor
open Go.ChangeShapes Go.WideShapes Go.ChangeAt Go.RowKit Go.Ev
open Go.ChangeMaps (open_string shut_string)
set_option maxRecDepth 1000000
/-- A listed datum's cells. -/
def litV : DataW Unit → Value
  | .lit (.int k n) => .int k n
  | _ => .bool false
def lits : DataW Unit → List Value
  | .agg l => l.map litV
  | d => [litV d]
def litss : DataW Unit → List Value
  | .agg l => l.flatMap lits
  | d => [litV d]
noncomputable def setG (g : Nat) (cs : List Value) (w : World) : World :=
  { w with heap := w.heap.modify g fun
      | .cells _ t frozen => .cells cs.toArray t frozen
      | o => o }
/-- A world for the witness: each listed variable holds what is listed. -/
noncomputable def laidWorld (os : Os) : World :=
  let w := World.holding Tryz.prog os ⟨#[], #[], []⟩
  let n := w.heap.size
  let w := (w.alloc (.cells #[.string ⟨#[105, 110, 118, 97, 108, 105, 100, 32, 115, 121, 110, 116, 97, 120]⟩] 290)).alloc (.cells #[.string ⟨#[118, 97, 108, 117, 101, 32, 111, 117, 116, 32, 111, 102, 32, 114, 97, 110, 103, 101]⟩] 290)
  setG 6 (lits Rows.laid_math_bits_deBruijn32tab) (setG 7 (lits Rows.laid_math_bits_deBruijn64tab) (setG 3 (lits Rows.laid_internal_strconv_uint64pow10) (setG 5 (litss Rows.laid_unicode_utf8_acceptRanges) (setG 4 (lits Rows.laid_unicode_utf8_first)
    (setG 1 [.iface 288 (.pointer (some ⟨n, 0, none⟩))] (setG 2 [.iface 288 (.pointer (some ⟨n + 1, 0, none⟩))] w))))))
abbrev arg0 : Value := .agg #[.int .i64 0, .int .i64 0, .slice none 0 0, .slice none 0 0]
theorem laid_met (os : Os) : laidMet Tryz.prog Rows.certificateTextsRow.laid ((laidWorld os).forCall (fun _ _ => 0) ⟨#[], #[arg0], []⟩).memory :=
  laidMet_of_run' 8 (by kernel_rfl) (by kernel_rfl)
theorem reads (os : Os) {H : Type} (enc : TypeId × Value → H) : ∃ places, DataW.whole enc Tryz.prog ((laidWorld os).forCall (fun _ _ => 0) ⟨#[], #[arg0], []⟩).memory Tryz.f3.params.toList Rows.certificateTextsSpec.vars false #[arg0].toList 8 = some ([.agg [.lit (.int .i64 0), .lit (.int .i64 0), .agg [.nil], .nil]], [], places) :=
  ⟨[], by kernel_rfl⟩
end Go.Proofs.YtggkgmmhblamfaaGreatDoor
