/- 'unravellaw47.CertificateTexts' answers true for every proof value, and leaves it as it was. -/
import Derived.Test.YtggkgmmhblamfaaGreatDoorTFB
set_option linter.all false
namespace Go.Proofs.YtggkgmmhblamfaaGreatDoor
open Go.ChangeShapes Go.WideShapes Go.ChangeAt Go.RowKit Go.Ev
set_option maxRecDepth 1000000
theorem g10 : Tryz.ctx.G = 10 := by kernel_rfl
theorem walk3 (W : World) (hL : laidMetH Tryz.prog Rows.certificateParsesRow.laid W) (hs : W.ShapedOpen Tryz.prog) {k m : Int} {tb cy : Value} {t : List (List Int)} {l : List Int} {rv : Nat → Value} (m0 : -9223372036854775808 ≤ m) (m1 : m ≤ 9223372036854775807)
    (q0 : SlV W tb t.length rv) (qr : ∀ (i : Nat) (r : List Int), t[i]? = some r → SlV W (rv i) r.length (intV r)) (qc : SlV W cy l.length (intV l)) :
    Calls Tryz.prog 3 #[.agg #[.int .i64 k, .int .i64 m, tb, cy]] W fun e w' => e = .returned (.bool true) ∧ Below W.heap.size W w' := by
  have hS := Tryz.spOk (Ω := fun g => W.heap[g]?) ctxOk (lays hL hs fun _ _ => rfl)
  have sim : Sim Tryz.ctx.G (arρ W tb cy rv) (arH W tb cy rv t l) W := by rw [g10]; exact ar_sim q0 qr qc
  have hlo : loL (arH W tb cy rv t l).next [.agg [.int .i64 k, .int .i64 m, avV 10 tb, avV 11 cy]] = true := by
    have n1 : 10 < (arH W tb cy rv t l).next := show 10 < 12 + t.length by omega
    have n2 : 11 < (arH W tb cy rv t l).next := show 11 < 12 + t.length by omega
    show ((true && (true && ((avV 10 tb).lo _ && ((avV 11 cy).lo _ && true)))) && true) = true
    rw [q0.lo n1, qc.lo n2]
    rfl
  have h := calls_still ctxOk hS sim (fun g o h => h) arH_still hlo (Tryz.c3all (k := k) arH_low (ar_tab q0 qr) (ar_row qc) m0 m1)
  have e : (concL (arρ W tb cy rv) [.agg [.int .i64 k, .int .i64 m, avV 10 tb, avV 11 cy]]).toArray = #[.agg #[.int .i64 k, .int .i64 m, tb, cy]] := by
    show #[Value.agg #[.int .i64 k, .int .i64 m, conc (arρ W tb cy rv) (avV 10 tb), conc (arρ W tb cy rv) (avV 11 cy)]] = _
    rw [q0.conc (ρ := arρ W tb cy rv) (b := 10) rfl, qc.conc (ρ := arρ W tb cy rv) (b := 11) rfl]
  rw [e] at h
  exact h.mono fun e w' ⟨ρ, h1, h2⟩ => ⟨h1, h2⟩
theorem kids : Kids Tryz.prog (· < Tryz.prog.types.size) := kids_rows (by kernel_rfl) (by kernel_rfl)
theorem full : ∀ t e, t < Tryz.prog.types.size → Tryz.prog.underlying t = some (.slice e) → 0 < Tryz.prog.cellsOf e := slices_full_of Tryz.prog (by kernel_rfl)
theorem row27 : 27 < Tryz.prog.types.size := of_decide_eq_true (by kernel_rfl)
theorem contract3 (H : Type) (enc : TypeId × Value → H) (W : World) (base : Nat) (args : Array Value) (ds gs : List (DataW H)) (before : List MemPlace)
    (hval : ∀ (j : Nat) t v, Tryz.f3.params[j]? = some t → args[j]? = some v → Value.okWide Tryz.prog W .any base t v)
    (hW : DataW.Whole enc Tryz.prog Tryz.f3.params.toList Rows.certificateTextsSpec.vars false W args.toList ds gs before) (hL : laidMetH Tryz.prog Rows.certificateTextsRow.laid W) (hs : W.ShapedOpen Tryz.prog) :
    Calls Tryz.prog 3 args W fun e W' => ∃ v, e = .returned v ∧ Rows.certificateTextsSpec.post enc Tryz.prog Tryz.f3 false true false false W args v W' := by
  have hW' := hW
  have hlt := hW.lt
  obtain ⟨p, q, hA0, hV, rfl, hfz, hnd⟩ := hW
  have hA : DataW.TrodAll enc Tryz.prog W 0 (fun _ => true) true Tryz.f3.params.toList args.toList ds p := hA0
  have hAk := hA
  rw [Tryz.params3] at hA hval hAk
  obtain ⟨v0, d0, rfl, rfl, h0⟩ := trodAll_one hA
  obtain ⟨rfl, rfl⟩ := trodVars_none hV
  obtain ⟨k, m, tb, cy, t, l, rv, rfl, hm, q0, qr, qc⟩ := open_proof (.inr ⟨base, hval 0 27 v0 rfl rfl⟩) h0
  clear hA0
  simp only [List.append_nil] at hW' hlt
  refine (walk3 W hL hs hm.1 hm.2 q0 qr qc).mono fun e W' ⟨he, hg⟩ => ?_
  subst he
  have hAk' : DataW.TrodAll enc Tryz.prog W' 0 (fun _ => true) true [27] [.agg #[.int .i64 k, .int .i64 m, tb, cy]] [d0] p := by
    obtain ⟨fuel, hf⟩ := h0
    have h0' : DataW.Trod enc Tryz.prog W' 0 (fun _ => true) true 27 (.agg #[.int .i64 k, .int .i64 m, tb, cy]) d0 p := ⟨fuel, DataW.trod_carry _ _ _ _ hf fun x hx => hg.same (hlt x hx)⟩
    have := trodAll_cons_mk h0' (trodAll_mk0 (enc := enc) (P := Tryz.prog) (w := W') (base := 0) (spare := fun _ => true) (held := true))
    simpa using this
  exact ⟨_, rfl, post_of_below (pa := p) (pv := []) hW' (fun _ _ _ => trodAll_cons_mk (shut_bool Tryz.underlying4 _) trodAll_mk0)
    (fun sp hsp => by rw [Tryz.params3]; exact DataW.TrodAll.respare kids full (fun t ht => by rw [List.mem_singleton] at ht; subst ht; exact row27) hAk' hsp) (fun _ _ => rfl) (by simp)
    hg (ok_one (by kernel_rfl) rfl (okWide_bool_mk Tryz.underlying4 _))⟩
theorem lifted3 (os : Os) (started : os.Started) (H : Type) (enc : TypeId × Value → H) (F : Stop.Interp) :
    ReturnsInHanded {} Tryz.checked os 3 .any ((OpenSpec.ofChange Rows.certificateTextsSpec).preRow enc Tryz.prog Tryz.f3 Rows.certificateTextsRow.domain false Rows.certificateTextsRow.laid) (((OpenSpec.ofChange Rows.certificateTextsSpec).at F).post enc Tryz.prog Tryz.f3 false true false false) := by
  obtain ⟨places, hx⟩ := reads os enc
  refine returnsInHanded_of_row (C := Tryz.checked) (s := OpenSpec.ofChange Rows.certificateTextsSpec) own started (by kernel_rfl) Tryz.func3
    (witness_row_at (enc := enc) (C := Tryz.checked) false (laidWorld os) #[arg0] rfl (by kernel_rfl) (by kernel_rfl) (by kernel_rfl)
      (OpenSpec.preRow_of_cond 8 hx (by kernel_rfl) (fun k hk => by cases hk) (by kernel_rfl) (laid_met os))) ?_
  intro W base args ds gs before hval hW _ _ _ hL hs _
  exact contract3 H enc W base args ds gs before hval hW hL hs
end Go.Proofs.YtggkgmmhblamfaaGreatDoor
