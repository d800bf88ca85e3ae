/- What the rows' worlds give: the listed variables; a witness. -/
import Derived.Test.YtggkgmmhblamfaaGreatDoorTSum
import Derived.Test.YtggkgmmhblamfaaGreatDoorCards
import Derived.Test.YtggkgmmhblamfaaGreatDoorTie
import Derived.WalkKit
import Derived.ProofKit
import Derived.OpenShut
import Derived.Deep.DeepHandedRow
import Derived.Lib.LaidTab
import Derived.Stop.LaidErr
set_option linter.all false
namespace Go.Proofs.YtggkgmmhblamfaaGreatDoor
open Go.ChangeShapes Go.WideShapes Go.ChangeAt Go.RowKit Go.Ev
set_option maxRecDepth 1000000
theorem ctxOk : CtxOk Tryz.prog Tryz.ctx := Tryz.ctxOk' Tryz.k1 Tryz.k5 Tryz.k2 Tryz.k3
theorem own : ownKnob Tryz.prog.godebug = none := by kernel_rfl
theorem gTab : Tryz.prog.globalNamed "internal/strconv.uint64pow10" = some 3 := by kernel_rfl
theorem gTabType : (Tryz.prog.globals[3]?).map (·.type) = some 283 := by kernel_rfl
theorem cells283 : Tryz.prog.cellsOf 283 = 20 := by kernel_rfl
theorem cells213 : Tryz.prog.cellsOf 213 = 1 := by kernel_rfl
theorem gES : Tryz.prog.globalNamed "strconv.ErrSyntax" = some 1 := by kernel_rfl
theorem gESType : (Tryz.prog.globals[1]?).map (·.type) = some 55 := by kernel_rfl
theorem gER : Tryz.prog.globalNamed "strconv.ErrRange" = some 2 := by kernel_rfl
theorem gERType : (Tryz.prog.globals[2]?).map (·.type) = some 55 := by kernel_rfl
theorem cells290 : Tryz.prog.cellsOf 290 = 1 := by kernel_rfl
theorem cells9 : Tryz.prog.cellsOf 9 = 1 := by kernel_rfl
theorem star : "*" ++ "errors.errorString" = "*errors.errorString" := by decide
theorem row288 (u : TypeId) (h : Tryz.prog.typeName? 3 u = some "*errors.errorString") : u = 288 :=
  typeName_ptr_named (nm := "errors.errorString") (by rw [star]; kernel_rfl) (by kernel_rfl) (by decide) u (by rw [star]; exact h)
theorem tab {W : World} (h : laidMetH Tryz.prog Rows.certificateParsesRow.laid W) : Lib.TabIs Tryz.prog W "internal/strconv.uint64pow10" .u64 Lib.pow10Tab :=
  Lib.tabIs_of_head (rest := _) gTab gTabType Tryz.underlying283 Tryz.underlying213 cells213 cells283 (laidMet.tail (laidMet.tail h))
theorem syn {W : World} (h : laidMetH Tryz.prog Rows.certificateParsesRow.laid W) : ∃ a, W.cell? ⟨1, 0, none⟩ = some (.iface 288 (.pointer (some a))) := by
  obtain ⟨a, s, hv, -, -, -⟩ := laid_sentinel (laidMet.tail (laidMet.tail (laidMet.tail (laidMet.tail (laidMet.tail h))))) gES gESType Tryz.underlying55 row288 Tryz.underlying288 Tryz.underlying290 rfl rfl Tryz.underlying9 cells290 cells9
  exact ⟨a, by have h0 := World.var?_cell gES hv 0; simpa using h0⟩
theorem rng {W : World} (h : laidMetH Tryz.prog Rows.certificateParsesRow.laid W) : ∃ a, W.cell? ⟨2, 0, none⟩ = some (.iface 288 (.pointer (some a))) := by
  obtain ⟨a, s, hv, -, -, -⟩ := laid_sentinel (laidMet.tail (laidMet.tail (laidMet.tail (laidMet.tail h)))) gER gERType Tryz.underlying55 row288 Tryz.underlying288 Tryz.underlying290 rfl rfl Tryz.underlying9 cells290 cells9
  exact ⟨a, by have h0 := World.var?_cell gER hv 0; simpa using h0⟩
/-- All blocks of a world but some. -/
theorem cell_of {W w : World} {Ω : Nat → Option Obj} {g i : Nat} {v : Value} (hΩ : Ω g = W.heap[g]?) (h : W.cell? ⟨g, i, none⟩ = some v) (hw : ∀ g o, Ω g = some o → w.heap[g]? = some o) : w.cell? ⟨g, i, none⟩ = some v := by
  have : w.heap[g]? = W.heap[g]? := by
    cases e : W.heap[g]? with
    | none => unfold World.cell? at h; simp [e] at h
    | some o => exact hw g o (hΩ.trans e)
  rw [← h]
  exact World.cell?_of_block this
theorem lays {W : World} (h : laidMetH Tryz.prog Rows.certificateParsesRow.laid W) (hs : W.ShapedOpen Tryz.prog) {Ω : Nat → Option Obj} (hΩ : ∀ g, g < 4 → Ω g = W.heap[g]?) : Lays Tryz.prog Ω := by
  refine ⟨fun w hw => ?_, fun w hw => ?_, fun w hw => ?_, fun w hw => ?_⟩
  · obtain ⟨m, hm⟩ := Tryz.laysM145.s1_3 W hs
    exact ⟨m, cell_of (hΩ 0 (by decide)) hm hw⟩
  · obtain ⟨a, ha⟩ := syn h
    exact ⟨_, _, cell_of (hΩ 1 (by decide)) ha hw⟩
  · obtain ⟨a, ha⟩ := rng h
    exact ⟨_, _, cell_of (hΩ 2 (by decide)) ha hw⟩
  · have ht := tab h
    unfold Lib.TabIs World.var? at ht ⊢
    rw [gTab] at ht ⊢
    simp only [Option.bind_some] at ht ⊢
    have : w.heap[3]? = W.heap[3]? := by
      cases e : W.heap[3]? with
      | none => simp [e] at ht
      | some o => exact hw 3 o ((hΩ 3 (by decide)).trans e)
    rw [this]
    exact ht
/-- The answer, where what lay lies still. -/
theorem post_of_below {H : Type} {enc : TypeId × Value → H} {P : Program} {f : Func} {s : ChangeSpec} {apart fresh handsOn again : Bool} {W W' : World} {args : Array Value} {v : Value} {ds gs : List (DataW H)} {before pa pv : List MemPlace}
    (hW : DataW.Whole enc P f.params.toList s.vars apart W args.toList ds gs before)
    (hres : ∀ (b : Nat) (sp : Nat → Bool) (hd : Bool), DataW.TrodAll enc P W' b sp hd f.resultTypes.toList (v.resultList f.resultTypes.size) (s.fn H (ds ++ gs)).results [])
    (hargs : ∀ sp : Nat → Bool, (∀ p ∈ before, sp p.block = true) → DataW.TrodAll enc P W' 0 sp true f.params.toList args.toList (s.fn H (ds ++ gs)).args pa)
    (hvars : ∀ sp : Nat → Bool, (∀ p ∈ before, sp p.block = true) → DataW.TrodVars enc P W' sp s.vars (s.fn H (ds ++ gs)).vars pv)
    (hps : before = pa ++ pv) (hb : Below W.heap.size W W')
    (hok : ∀ (j : Nat) (t : TypeId) (r : Value), f.resultTypes[j]? = some t → (v.resultList f.resultTypes.size)[j]? = some r → Value.okWide P W' .any 0 t r) :
    s.post enc P f apart fresh handsOn again W args v W' := by
  have hold : ∀ p ∈ before, (fun b => decide (b < W.heap.size)) p.block = true := fun p hp => by simpa using hW.lt p hp
  have hlt := hW.lt
  refine ⟨ds, gs, before, [], pa, pv, hW, hres _ _ _, hargs _ hold, hvars _ hold, World.keptBut_mono (fun p hp => ⟨hp, ?_⟩) (hb.frame (· ∈ before)), fun _ => ?_⟩
  · rw [hps, List.mem_append] at hp
    exact Or.inr hp
  · obtain ⟨_, _, _, _, _, hz, hn⟩ := hW
    refine ⟨hok, _, _, ([] ++ pa) ++ pv, ⟨[] ++ pa, pv, trodAll_append (hargs _ (fun _ _ => rfl)) (hres _ _ _), hvars _ (fun _ _ => rfl), rfl, ?_, ?_⟩, ?_⟩
    · intro b off hp
      have hp' : MemPlace.cell b off ∈ before := by rw [hps]; simpa using hp
      rw [hb.frozen (hlt _ hp')]
      exact hz b off hp'
    · intro ha
      have := hn ha
      rw [hps] at this
      simpa using this
    · intro p hp _
      rw [hps]
      simpa using hp
end Go.Proofs.YtggkgmmhblamfaaGreatDoor
