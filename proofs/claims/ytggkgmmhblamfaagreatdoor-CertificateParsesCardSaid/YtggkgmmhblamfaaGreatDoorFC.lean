/- 'unravellaw47.CertificateParses' answers true for every text, and leaves the text as it was. -/
import Derived.Test.YtggkgmmhblamfaaGreatDoorFB
set_option linter.all false
namespace Go.Proofs.YtggkgmmhblamfaaGreatDoor
open Go.ChangeShapes Go.WideShapes Go.ChangeAt Go.RowKit Go.Ev
open Go.ChangeMaps (open_string shut_string)
set_option maxRecDepth 1000000
theorem walk4 (W : World) (hL : laidMetH Tryz.prog Rows.certificateParsesRow.laid W) (hs : W.ShapedOpen Tryz.prog) (s : ByteArray) :
    Calls Tryz.prog 4 #[.string s] W fun e w' => e = .returned (.bool true) ∧ Below W.heap.size W w' := by
  have hS := Tryz.sp9Ok (Ω := fun g => W.heap[g]?) ctxOk (lays hL hs fun _ _ => rfl)
  obtain ⟨K, hK⟩ := Tryz.c4all (AH.none 10) (fun b x e => by cases e) s.data.toList
  have h := below_of_one ctxOk hS K W (fun g o h => h) (v := .bool true) (h' := AH.none 10) (args := [.str s.data.toList]) rfl (hK K (Nat.le_refl K))
  have e : (concL Map.id [.str s.data.toList]).toArray = #[.string s] := by
    show #[Value.string ⟨s.data.toList.toArray⟩] = _
    simp
  rw [e] at h
  exact h.mono fun e w' ⟨ρ, h1, h2⟩ => ⟨h1, h2⟩
theorem contract4 (H : Type) (enc : TypeId × Value → H) (W : World) (base : Nat) (args : Array Value) (ds gs : List (DataW H)) (before : List MemPlace)
    (hval : ∀ (j : Nat) t v, Tryz.f4.params[j]? = some t → args[j]? = some v → Value.okWide Tryz.prog W .any base t v)
    (hW : DataW.Whole enc Tryz.prog Tryz.f4.params.toList Rows.certificateParsesSpec.vars false W args.toList ds gs before) (hL : laidMetH Tryz.prog Rows.certificateParsesRow.laid W) (hs : W.ShapedOpen Tryz.prog) :
    Calls Tryz.prog 4 args W fun e W' => ∃ v, e = .returned v ∧ Rows.certificateParsesSpec.post enc Tryz.prog Tryz.f4 false true false false W args v W' := by
  have hW' := hW
  obtain ⟨p, q, hA0, hV, rfl, hfz, hnd⟩ := hW
  have hA : DataW.TrodAll enc Tryz.prog W 0 (fun _ => true) true Tryz.f4.params.toList args.toList ds p := hA0
  rw [Tryz.params4] at hA hval
  obtain ⟨v0, vs0, d0, ds0, p0, q0, hargs, rfl, rfl, h0, r0⟩ := trodAll_cons hA
  obtain ⟨rfl, rfl, rfl⟩ := trodAll_nil r0
  obtain rfl : args = #[v0] := by cases args; simp_all
  obtain ⟨rfl, rfl⟩ := trodVars_none hV
  obtain ⟨s, rfl, rfl, rfl, hmax⟩ := open_string Tryz.underlying9 (hval 0 9 v0 rfl rfl) h0
  clear hA0
  simp only [List.append_nil] at hW'
  refine (walk4 W hL hs s).mono fun e W' ⟨he, hg⟩ => ?_
  subst he
  exact ⟨_, rfl, post_of_below (pa := []) (pv := []) hW' (fun _ _ _ => trodAll_cons_mk (shut_bool Tryz.underlying4 _) trodAll_mk0) (fun _ _ => trodAll_cons_mk (shut_string Tryz.underlying9 hmax) trodAll_mk0) (fun _ _ => rfl) rfl
    hg (ok_one (by kernel_rfl) rfl (okWide_bool_mk Tryz.underlying4 _))⟩
theorem lifted4 (os : Os) (started : os.Started) (H : Type) (enc : TypeId × Value → H) (F : Stop.Interp) :
    ReturnsInHanded {} Tryz.checked os 4 .any ((OpenSpec.ofChange Rows.certificateParsesSpec).preRow enc Tryz.prog Tryz.f4 Rows.certificateParsesRow.domain false Rows.certificateParsesRow.laid) (((OpenSpec.ofChange Rows.certificateParsesSpec).at F).post enc Tryz.prog Tryz.f4 false true false false) := by
  obtain ⟨places, hx⟩ := reads os enc
  refine returnsInHanded_of_row (C := Tryz.checked) (s := OpenSpec.ofChange Rows.certificateParsesSpec) own started (by kernel_rfl) Tryz.func4
    (witness_row_at (enc := enc) (C := Tryz.checked) false (laidWorld os) #[.string .empty] rfl (by kernel_rfl) (by kernel_rfl) (by kernel_rfl)
      (OpenSpec.preRow_of_cond 8 hx (by kernel_rfl) (fun k hk => by cases hk) (by kernel_rfl) (laid_met os))) ?_
  intro W base args ds gs before hval hW _ _ _ hL hs _
  exact contract4 H enc W base args ds gs before hval hW hL hs
end Go.Proofs.YtggkgmmhblamfaaGreatDoor
