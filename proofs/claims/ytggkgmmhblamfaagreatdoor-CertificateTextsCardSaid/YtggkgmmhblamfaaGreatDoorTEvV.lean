/- The evaluator, part V: calls. -/
import Derived.Test.YtggkgmmhblamfaaGreatDoorTEvR
import Derived.Orders
set_option linter.all false
namespace Go.Ev
section
variable {P : Program} {C : Ctx} {ih : Ev} {G : Nat} {ρ ρ' ρ'' : Map} {h h' : AH} {w w' : World} {key : FuncId × Nat × Option Nat} {b : Frame} {T : PT AV} {tmps : Array Value} {df : List Nat}

/-- A call's own view of the blocks: everything that lies is old. -/
def AH.fresh (h : AH) : AH := ⟨h.t, h.next, h.next, []⟩
theorem Sim.fresh (s : Sim G ρ h w) : Sim G ρ h.fresh w := ⟨s.blk, s.inj, s.glob, s.le, Nat.le_refl _, s.spot⟩

theorem mergeLog_mem {mark c : Nat} {l : List Nat} : ∀ {k : List Nat}, c ∈ mergeLog mark l k ↔ c ∈ l ∨ (c ∈ k ∧ c < mark)
  | [] => by simp [mergeLog]
  | b :: k => by
    change c ∈ logged mark b (mergeLog mark l k) ↔ _
    rw [mem_logged, mergeLog_mem, List.mem_cons]
    constructor
    · rintro ((h | ⟨h1, h2⟩) | ⟨rfl, h2⟩)
      · exact .inl h
      · exact .inr ⟨.inr h1, h2⟩
      · exact .inr ⟨.inl rfl, h2⟩
    · rintro (h | ⟨rfl | h1, h2⟩)
      · exact .inl (.inl h)
      · exact .inr ⟨rfl, h2⟩
      · exact .inl (.inr ⟨h1, h2⟩)

/-- Back in the caller's view. -/
theorem Step.unfresh (s0 : Sim G ρ h w) {t : PT ABlock} {next : Nat} {log log' : List Nat} (s : Step G ρ h.fresh w ρ' ⟨t, next, h.next, log⟩ w') (hl : ∀ c, c ∈ log' ↔ c ∈ h.log ∨ (c ∈ log ∧ c < h.mark)) :
    Step G ρ h w ρ' ⟨t, next, h.mark, log'⟩ w' where
  agree := s.agree
  next := s.next
  sim := ⟨s.sim.blk, s.sim.inj, s.sim.glob, s.sim.le, Nat.le_trans s0.mark s.next, s.sim.spot⟩
  os := s.os
  tape := s.tape
  output := s.output
  size := s.size
  frame := s.frame
  image := s.image
  mark := rfl
  log c hc := (hl c).2 (.inl hc)
  logLt c hc := ((hl c).1 hc).imp id (·.2)
  keep c hc hn := s.keep c (Nat.lt_of_lt_of_le hc s0.mark) fun q => hn ((hl c).2 (.inr ⟨q, hc⟩))

/-- How a result is read. -/
def resSem (tmps : Array Value) : ResultVar → Sem Value
  | .tmp t => pure (tmps.getD t undef)
  | .cell a t => do loadVar t (← asAddr (tmps.getD a undef))

theorem resOf_ok (hC : CtxOk P C) (s : Sim C.G ρ h w) {n : Nat} (hTR : TR ρ n T tmps) (hTB : TB h.next T) {r : ResultVar} {v : AV} (hv : resOf C.ty T h r = some v) :
    (resSem tmps r).run P w = .ok (conc ρ v) w ∧ v.lo h.next = true := by
  cases r with
  | tmp t =>
    change T.get t = some v at hv
    refine ⟨?_, hTB t v hv⟩
    have := hTR.2 t v hv
    simp [resSem, Array.getD_eq_getD_getElem?, this]
  | cell a t =>
    simp only [resOf] at hv
    split at hv
    · rename_i at' b off hty ha
      split at hv
      · rename_i c fz hk
        have hb : h.t.get b = some (.cells c fz) := by
          unfold known at hk
          split at hk
          · rename_i hb; cases hk; exact hb
          · cases hk
        have hsl := hTR.2 a _ ha
        have e1 : tmps.getD a undef = .pointer (some ((ρ b).at off)) := by simp [Array.getD_eq_getD_getElem?, hsl, conc]
        obtain ⟨h1, h2⟩ := s.load (hC.ty _ _ hty) hb hv
        refine ⟨?_, h2⟩
        simp [resSem, e1, asAddr, h1]
      · cases hv
    · cases hv

theorem ressOf_ok (hC : CtxOk P C) (s : Sim C.G ρ h w) {n : Nat} (hTR : TR ρ n T tmps) (hTB : TB h.next T) : ∀ {rs : List ResultVar} {vs : List AV}, ressOf C.ty T h rs = some vs →
    (rs.mapM (resSem tmps)).run P w = .ok (concL ρ vs) w ∧ loL h.next vs = true
  | [], vs, e => by cases e; exact ⟨rfl, rfl⟩
  | r :: rs, vs, e => by
    simp only [ressOf] at e
    split at e
    · rename_i v hv
      split at e
      · rename_i vs' hvs
        cases e
        obtain ⟨h1, h2⟩ := resOf_ok hC s hTR hTB hv
        obtain ⟨h3, h4⟩ := ressOf_ok hC s hTR hTB hvs
        refine ⟨?_, by simp only [loL, allL, h2, h4, Bool.and_self]⟩
        rw [List.mapM_cons, Sem.run_bind, h1, Result.andThen_ok, Sem.run_bind, h3]
        rfl
      · cases e
    · cases e

theorem results_ok (hC : CtxOk P C) (s : Sim C.G ρ h w) {n : Nat} (hTR : TR ρ n T tmps) (hTB : TB h.next T) {fn : Func} {vs : List AV} (hv : ressOf C.ty T h fn.results.toList = some vs) :
    (results fn tmps).run P w = .ok (conc ρ (pack vs)) w ∧ (pack vs).lo h.next = true := by
  obtain ⟨h1, h2⟩ := ressOf_ok hC s hTR hTB hv
  have e : results fn tmps = (do
      let vs ← fn.results.mapM (resSem tmps)
      pure (if h : vs.size = 1 then vs[0] else .tuple vs)) := by
    unfold results
    congr 1
  rw [e, Array.mapM_eq_mapM_toList, Sem.run_bind, ← bind_pure_comp, Sem.run_bind, h1]
  simp only [Result.andThen_ok, Sem.run_pure]
  match vs, h2 with
  | [], h2 => exact ⟨rfl, rfl⟩
  | [v], h2 =>
    simp only [loL, allL, Bool.and_true] at h2
    exact ⟨rfl, h2⟩
  | v :: u :: l, h2 => exact ⟨rfl, h2⟩

/-- The marks are taken. -/
theorem dropMarks_ok {P : Program} : ∀ {df : List Nat} {ρ : Map} {h h' : AH} {w : World}, Sim G ρ h w → dropMarks df h = some h' →
    ∃ w', Step G ρ h w ρ h' w' ∧ ∀ (fr : Frame) (cs : List Frame), fr.mode = .returning → Steps P (lone { fr with defers := marks ρ df } cs w) (lone { fr with defers := [] } cs w')
  | [], ρ, h, h', w, s, e => by cases e; exact ⟨w, .refl s, fun fr cs _ => .refl P _⟩
  | d :: df, ρ, h, h', w, s, e => by
    simp only [dropMarks] at e
    split at e
    · rename_i hd
      obtain ⟨h1, _, h3, h4⟩ := s.blk d _ hd
      have hrun := run_takeDeferred (P := P) h4
      have s1 := Step.forgetObj s (o := .deferred none) hd
      obtain ⟨w', s2, hs⟩ := dropMarks_ok (P := P) s1.sim e
      refine ⟨w', s1.trans s2, fun fr cs hm => .head (step_lone_go ?_) (hs fr cs hm)⟩
      simp [stepG, unwind, hm, marks, Sem.runT_eq, hrun]
    · cases e

/-- The end of a function. -/
theorem atEnd_ok (hC : CtxOk P C) {f : FuncId} {fn : Func} (hf : P.funcs[f]? = some fn) {Ω : Nat → Option Obj} {cs : List Frame} {m : Machine} {o : O} (hb : b.roundOf = none) (hk : b.kind = .normal) (hn : b.fn = f)
    (ho : Out P Ω C.G key b ρ h w [] cs m o) : (atEnd C fn o).Ok fun r => ∃ ρ' w', Step C.G ρ h w ρ' r.h w' ∧ r.v.lo r.h.next = true ∧
      ∃ fr, Steps P m (lone fr cs w') ∧ fr.fn = f ∧ fr.leaving P w' (.returned (conc ρ' r.v)) := by
  obtain ⟨ρ', w', ts, s, st, hr⟩ := ho
  have go : (∃ todo, Steps P m (lone { b.atR ⟨ts, marks ρ' o.df⟩ todo with mode := .returning } cs w')) →
      (match dropMarks o.df o.h with
      | some h => (match ressOf C.ty o.T h fn.results.toList with
        | some l => .one ⟨pack l, h⟩
        | none => .fail)
      | none => .fail : Res V).Ok fun r => ∃ ρ' w', Step C.G ρ h w ρ' r.h w' ∧ r.v.lo r.h.next = true ∧
        ∃ fr, Steps P m (lone fr cs w') ∧ fr.fn = f ∧ fr.leaving P w' (.returned (conc ρ' r.v)) := by
    intro hret
    split
    · rename_i h2 hd
      split
      · rename_i l hl
        obtain ⟨w2, s2, hs2⟩ := dropMarks_ok (P := P) st.sim hd
        have st2 := st.step s2
        obtain ⟨h1, h2⟩ := results_ok hC st2.sim st2.tr st2.tb hl
        obtain ⟨todo, ht⟩ := hret
        refine ⟨ρ', w2, s.trans s2, h2, ?_⟩
        have ht2 := hs2 { b.atR ⟨ts, marks ρ' o.df⟩ todo with mode := .returning } cs rfl
        refine ⟨_, ht.trans ht2, hn, rfl, rfl, hk, fn, ?_, h1⟩
        show P.funcs[b.fn]? = _
        rw [hn]; exact hf
      · trivial
    · trivial
  unfold atEnd
  cases hx : o.x with
  | norm =>
    refine go ⟨[], ?_⟩
    rw [hx] at hr
    exact Steps.trans hr (.one (stepR_end hb))
  | ret =>
    rw [hx] at hr
    obtain ⟨k', hk'⟩ := hr
    exact go ⟨_, hk'.trans (.one (stepR_ret hb))⟩
  | exit id => trivial
  | goto l => trivial
end
end Go.Ev
namespace Go.Ev

theorem backs_spec {h : AH} : ∀ {l : List CO} {os : List V}, backs h l = some os → ∀ c ∈ l, ∃ o, c.back h = some o ∧ o ∈ os
  | [], os, e => fun _ h => by simp at h
  | c :: l, os, e => by
    simp only [backs] at e
    split at e
    · rename_i o ho
      split at e
      · rename_i os' hos
        cases e
        intro d hd
        rcases List.mem_cons.1 hd with rfl | hd
        · exact ⟨o, ho, List.mem_cons_self⟩
        · obtain ⟨o', h1, h2⟩ := backs_spec hos d hd
          exact ⟨o', h1, List.mem_cons_of_mem _ h2⟩
      · cases e
    · cases e

theorem argsT_get : ∀ {l : List AV} {i j : Nat} {T : PT AV}, (argsT l i T).get j = if i ≤ j ∧ j < i + l.length then l[j - i]? else T.get j
  | [], i, j, T => by simp only [argsT, List.length_nil]; rw [if_neg (by omega)]
  | v :: l, i, j, T => by
    simp only [argsT, PT.force_eq]
    rw [argsT_get, PT.get_put, List.length_cons]
    by_cases e : j = i
    · subst e
      rw [if_neg (by omega), if_pos rfl, if_pos (by omega), Nat.sub_self]
      rfl
    · rw [if_neg e]
      by_cases h : i + 1 ≤ j ∧ j < i + 1 + l.length
      · rw [if_pos (show Nat.succ i ≤ j ∧ j < Nat.succ i + l.length from h), if_pos (by omega)]
        have : j - i = (j - (i + 1)) + 1 := by omega
        rw [this]; rfl
      · rw [if_neg (show ¬ (Nat.succ i ≤ j ∧ j < Nat.succ i + l.length) from h), if_neg (by omega)]

section
variable {P : Program} {Ω : Nat → Option Obj} {C : Ctx} {ih : Ev} {G : Nat} {ρ ρ' ρ'' : Map} {h h' : AH} {w w' : World}

def Val (G : Nat) (ρ : Map) (h : AH) (w : World) (K : Value → World → Prop) (r : V) : Prop :=
  ∃ ρ' w', Step G ρ h w ρ' r.h w' ∧ r.v.lo r.h.next = true ∧ K (conc ρ' r.v) w'

theorem behind_ok (s0 : Sim G ρ h w) {K : Value → World → Prop} {r : Res V} (hr : r.Ok (Val G ρ h.fresh w K)) : (behind h r).Ok (Val G ρ h w K) := by
  cases r with
  | fail => trivial
  | one r =>
    obtain ⟨ρ', w', s, h1, h2⟩ := hr
    obtain ⟨v, t, next, mark, log⟩ := r
    have hm : mark = h.next := s.mark
    subst hm
    unfold behind
    simp only
    split
    · rw [cnd_eq]
      split
      · rename_i hv
        have hkeep : ∀ b, b < h.next → t.get b = h.t.get b := fun b hb => s.keep b hb (by simp)
        refine ⟨ρ, w', ⟨fun _ _ => rfl, Nat.le_refl _, ⟨fun b ab hb => ?_, s0.inj, s0.glob, s0.le, s0.mark, s0.spot⟩, s.os, s.tape, s.output, s.size, s.frame, fun b ab hb => .inl ⟨b, ab, hb, id, rfl⟩, rfl, fun _ h => h, fun _ h => .inl h, fun _ _ _ => rfl⟩, hv, ?_⟩
        · obtain ⟨g1, g2, _⟩ := s0.blk b ab hb
          have g3 := (s.sim.blk b ab ((hkeep b g1).trans hb)).2.2
          rw [s.low b g1] at g3
          exact ⟨g1, g2, g3.congr (fun i hi => (s.low i hi).symm) g2⟩
        · rw [← conc_congr (fun i hi => s.low i hi) v hv]
          exact h2
      · exact ⟨ρ', w', s.unfresh s0 (by simp), h1, h2⟩
    · exact ⟨ρ', w', s.unfresh s0 fun c => mergeLog_mem, h1, h2⟩
  | many l =>
    unfold behind
    change Res.Ok (match cosOf (fun r => canon h.next h.next .norm [r.v] r.h) l [] with
    | some cs => (match backs h cs with
      | some rs => oneOrMany rs
      | none => .fail)
    | none => .fail) _
    split
    · rename_i cs hcs
      split
      · rename_i rs hrs
        obtain ⟨r, hm, ρ', w', s, h1, h2⟩ := hr
        obtain ⟨c, hc, hm⟩ := (cosOf_spec hcs).2 r hm
        obtain ⟨r', hb, hm'⟩ := backs_spec hrs c hm
        refine oneOrMany_ok hm' ?_
        obtain ⟨ρ'', q, s', _, hv, hren⟩ := canon_ok s0.fresh s (x := .norm) (vs := [r.v]) hc
        obtain ⟨v', l', e, h3, h4⟩ := renL_cons hv
        simp only [renL] at h4
        cases h4
        unfold CO.back at hb
        rw [e] at hb
        simp only at hb
        cases hb
        have e0 : delRange h.fresh.mark h.fresh.t (h.fresh.next - h.fresh.mark) = h.t := by
          show delRange h.next h.t (h.next - h.next) = h.t
          rw [Nat.sub_self]; rfl
        rw [e0] at s'
        obtain ⟨h5, h6⟩ := renV_ok hren h3
        exact ⟨ρ'', w', s'.unfresh s0 fun c => mergeLog_mem, h6, by rw [h5]; exact h2⟩
      · trivial
    · trivial

theorem evEnter_ok (hC : CtxOk P C) (S : Sound P Ω C ih) (s : Sim C.G ρ h w) (B : Base Ω ρ h w) (f : FuncId) {args : List AV} (ha : loL h.next args = true) (cs : List Frame) :
    (evEnter C ih f args h).Ok (CallOut P C.G ρ h w f (concL ρ args).toArray cs) := by
  unfold evEnter
  split
  · rename_i fn hfn
    split
    · rename_i c hc
      rw [cnd_eq]
      split
      · rename_i hle
        have hle := ble_iff.1 hle
        rw [len_eq] at hle
        have hf := (hC.fn f fn hfn).1
        let b : Frame := { fn := f, tmps := #[], todo := [], defers := [], mode := .run, kind := .normal }
        let ts : Array Value := (concL ρ args).toArray ++ Array.replicate (fn.ntmps - (concL ρ args).toArray.size) undef
        have hsz : (concL ρ args).toArray.size = args.length := by simp [concL_length]
        have st : St Ω C.G (f, fn.ntmps, none) b ρ h.fresh w (argsT args 0 .leaf) ts [] := by
          refine ⟨s.fresh, B, ⟨by simp only [ts, Array.size_append, Array.size_replicate, hsz]; omega, fun i v hv => ?_⟩, fun i v hv => ?_, (fun d hd => by simp at hd), (fun l e => by cases e), rfl, rfl, rfl⟩
          · rw [argsT_get] at hv
            split at hv
            · rename_i hi
              have hi : i < args.length := by omega
              simp only [ts]
              rw [Array.getElem?_append_left (by rw [hsz]; exact hi)]
              simp only [List.getElem?_toArray, concL_get]
              rw [Nat.sub_zero] at hv
              rw [hv]; rfl
            · rw [PT.get_leaf] at hv; cases hv
          · rw [argsT_get] at hv
            split at hv
            · exact all_get ha hv
            · rw [PT.get_leaf] at hv; cases hv
        have hent : ∀ cs, lone (Frame.enter P f (concL ρ args).toArray .normal) cs w = lone (b.atR ⟨ts, marks ρ []⟩ [.code c]) cs w := by
          intro cs
          congr 1
          simp [Frame.enter, Frame.atR, hf, hc, b, ts, marks]
        refine Res.ok_mono (Q := Val C.G ρ h w fun v w' => ∃ fr, Steps P (lone (Frame.enter P f (concL ρ args).toArray .normal) cs w) (lone fr cs w') ∧ fr.fn = f ∧ fr.leaving P w' (.returned v)) ?_ fun r hr => hr
        refine behind_ok s ?_
        refine Res.ok_bind (S.code ⟨f, fn.ntmps, none, useRes fn.results.toList⟩ c (argsT args 0 .leaf) [] h.fresh b ρ ts w [] cs st) fun o ho => ?_
        refine Res.ok_mono (atEnd_ok hC hf rfl rfl rfl ho) fun r hr => ?_
        obtain ⟨ρ', w', h1, h2, fr, h4, h5, h6⟩ := hr
        exact ⟨ρ', w', h1, h2, fr, by rw [hent]; exact h4, h5, h6⟩
      · trivial
    · trivial
  · trivial

/-- What is known of some calls. -/
def SummOk (P : Program) (Ω : Nat → Option Obj) (C : Ctx) (S : Summ) : Prop :=
  ∀ f s, S.get f = some s → ∀ (args : List AV) (h : AH) (ρ : Map) (w : World) (cs : List Frame), Sim C.G ρ h w → Base Ω ρ h w → loL h.next args = true → (s args h).Ok (CallOut P C.G ρ h w f (concL ρ args).toArray cs)

theorem evCallF_ok (hC : CtxOk P C) (S : Sound P Ω C ih) {Su : Summ} (hS : SummOk P Ω C Su) (s : Sim C.G ρ h w) (B : Base Ω ρ h w) (f : FuncId) {args : List AV} (ha : loL h.next args = true) (cs : List Frame) :
    (evCallF C Su ih f args h).Ok (CallOut P C.G ρ h w f (concL ρ args).toArray cs) := by
  unfold evCallF
  split
  · rename_i q hq
    split
    · exact evEnter_ok hC S s B f ha cs
    · exact hS f q hq args h ρ w cs s B ha
  · exact evEnter_ok hC S s B f ha cs
end
end Go.Ev
namespace Go.Ev

/-- What a row of writes says of a block. -/
def valD : List (Nat × Option ABlock) → Nat → Option (Option ABlock)
  | [], _ => none
  | (c, x) :: d, b => match valD d b with
    | some y => some y
    | none => if b = c then some x else none
theorem putAll_get : ∀ {d : List (Nat × Option ABlock)} {t : PT ABlock} {b : Nat}, (putAll d t).get b = (valD d b).getD (t.get b)
  | [], t, b => rfl
  | (c, x) :: d, t, b => by
    simp only [putAll, PT.force_eq, valD]
    rw [putAll_get, PT.get_put]
    cases valD d b with
    | some y => rfl
    | none =>
      by_cases e : b = c
      · simp [e]
      · simp [e]
theorem valD_append : ∀ {d d' : List (Nat × Option ABlock)} {b : Nat}, valD (d ++ d') b = match valD d' b with
    | some y => some y
    | none => valD d b
  | [], d', b => by
    simp only [List.nil_append, valD]
    cases valD d' b <;> rfl
  | (c, x) :: d, d', b => by
    simp only [List.cons_append, valD]
    rw [valD_append]
    cases valD d' b <;> rfl
theorem valD_written {t : PT ABlock} {b : Nat} : ∀ {l : List Nat}, valD (written t l) b = if b ∈ l then some (t.get b) else none
  | [] => by simp [written, valD]
  | c :: l => by
    simp only [written, valD]
    rw [valD_written]
    by_cases h : b ∈ l
    · simp [h]
    · by_cases e : b = c
      · subst e; simp [h]
      · simp [h, e]
theorem valD_news {t : PT ABlock} {lo b : Nat} : ∀ {n : Nat}, valD (news t lo n) b = if lo ≤ b ∧ b < lo + n then some (t.get b) else none
  | 0 => by simp only [news, valD]; rw [if_neg (by omega)]
  | n + 1 => by
    simp only [news, valD]
    rw [valD_news]
    by_cases h : lo ≤ b ∧ b < lo + n
    · have h' : lo ≤ b ∧ b < lo + (n + 1) := ⟨h.1, by omega⟩
      rw [if_pos h, if_pos h']
    · rw [if_neg h]
      by_cases e : b = Nat.add lo n
      · subst e
        have e1 : lo ≤ Nat.add lo n ∧ Nat.add lo n < lo + (n + 1) := ⟨Nat.le_add_right _ _, Nat.lt_succ_self _⟩
        simp only [if_true]
        rw [if_pos e1]
      · have e : b ≠ lo + n := e
        simp only [if_neg (show ¬ b = Nat.add lo n from e)]
        rw [if_neg (by omega)]
theorem valD_ds {t : PT ABlock} {log : List Nat} {lo n b : Nat} : valD (written t log ++ news t lo n) b = if b ∈ log ∨ (lo ≤ b ∧ b < lo + n) then some (t.get b) else none := by
  rw [valD_append, valD_written, valD_news]
  by_cases h1 : lo ≤ b ∧ b < lo + n
  · have h' : b ∈ log ∨ lo ≤ b ∧ b < lo + n := .inr h1
    rw [if_pos h1, if_pos h']
  · rw [if_neg h1]
    by_cases h2 : b ∈ log
    · simp [h2]
    · simp only [if_neg h2]; rw [if_neg (by rintro (q | q); exact h2 q; exact h1 q)]
theorem valD_mem : ∀ {d : List (Nat × Option ABlock)} {b : Nat} {y : Option ABlock}, valD d b = some y → (b, y) ∈ d
  | (c, x) :: d, b, y, h => by
    simp only [valD] at h
    split at h
    · rename_i z hz
      cases h
      exact List.mem_cons_of_mem _ (valD_mem hz)
    · split at h
      · rename_i e; subst e; cases h; exact List.mem_cons_self
      · cases h

/-- The blocks after the operations of X. -/
noncomputable def ovl (X : Nat → Bool) : List En → Nat → PT ABlock → PT ABlock
  | [], _, t => t
  | e :: es, i, t => ovl X es (i + 1) (if X i then putAll e.ds t else t)
def lastV (X : Nat → Bool) : List En → Nat → Nat → Option (Option ABlock)
  | [], _, _ => none
  | e :: es, i, b => match lastV X es (i + 1) b with
    | some y => some y
    | none => if X i then valD e.ds b else none
theorem seeH_eq {bits : Nat} : ∀ {es : List En} {i : Nat} {t : PT ABlock}, seeH bits es i t = ovl (Nat.testBit bits) es i t
  | [], _, _ => rfl
  | e :: es, i, t => by
    simp only [seeH, ovl, cnd_eq, PT.force_eq]
    rw [seeH_eq, seeH_eq]
    split <;> rfl
theorem allH_eq : ∀ {es : List En} {i : Nat} {t : PT ABlock}, allH es t = ovl (fun _ => true) es i t
  | [], _, _ => rfl
  | e :: es, i, t => by
    simp only [allH, ovl, PT.force_eq]
    rw [allH_eq (i := i + 1)]; rfl
theorem ovl_get {X : Nat → Bool} {b : Nat} : ∀ {es : List En} {i : Nat} {t : PT ABlock}, (ovl X es i t).get b = (lastV X es i b).getD (t.get b)
  | [], _, _ => rfl
  | e :: es, i, t => by
    simp only [ovl, lastV]
    rw [ovl_get]
    cases lastV X es (i + 1) b with
    | some y => rfl
    | none =>
      cases X i
      · rfl
      · simp [putAll_get]
section
variable {X : Nat → Bool} {b : Nat}
theorem lastV_some : ∀ {es : List En} {i : Nat} {y : Option ABlock}, lastV X es i b = some y → ∃ j e, es[j]? = some e ∧ X (i + j) = true ∧ valD e.ds b = some y ∧
    ∀ j' e', j < j' → es[j']? = some e' → X (i + j') = true → valD e'.ds b = none
  | e :: es, i, y, h => by
    simp only [lastV] at h
    split at h
    · rename_i z hz
      cases h
      obtain ⟨j, e', h1, h2, h3, h4⟩ := lastV_some hz
      refine ⟨j + 1, e', h1, by rw [← h2]; congr 1; omega, h3, fun j' e'' hj he hx => ?_⟩
      obtain ⟨j', rfl⟩ : ∃ q, j' = q + 1 := ⟨j' - 1, by omega⟩
      exact h4 j' e'' (by omega) he (by rw [← hx]; congr 1; omega)
    · rename_i hz
      split at h
      · rename_i hX
        refine ⟨0, e, rfl, hX, h, fun j' e'' hj he hx => ?_⟩
        obtain ⟨j', rfl⟩ : ∃ q, j' = q + 1 := ⟨j' - 1, by omega⟩
        have : ∀ {es : List En} {i : Nat}, lastV X es i b = none → ∀ j e, es[j]? = some e → X (i + j) = true → valD e.ds b = none := by
          intro es
          induction es with
          | nil => intro i _ j e he; simp at he
          | cons a es ih =>
            intro i h j e he hx
            simp only [lastV] at h
            split at h
            · cases h
            · rename_i hn
              cases j with
              | zero => cases he; rw [Nat.add_zero] at hx; rw [if_pos hx] at h; exact h
              | succ j => exact ih hn j e he (by rw [← hx]; congr 1; omega)
        exact this hz j' e'' he (by rw [← hx]; congr 1; omega)
      · cases h
theorem lastV_none : ∀ {es : List En} {i : Nat}, lastV X es i b = none → ∀ j e, es[j]? = some e → X (i + j) = true → valD e.ds b = none
  | [], i, _, j, e, he, _ => by simp at he
  | a :: es, i, h, j, e, he, hx => by
    simp only [lastV] at h
    split at h
    · cases h
    · rename_i hn
      cases j with
      | zero => cases he; rw [Nat.add_zero] at hx; rw [if_pos hx] at h; exact h
      | succ j => exact lastV_none hn j e he (by rw [← hx]; congr 1; omega)
theorem lastV_eq_none : ∀ {es : List En} {i : Nat}, (∀ j e, es[j]? = some e → X (i + j) = true → valD e.ds b = none) → lastV X es i b = none
  | [], _, _ => rfl
  | e :: es, i, h => by
    simp only [lastV]
    rw [lastV_eq_none (fun j e' he hx => h (j + 1) e' he (by rw [← hx]; congr 1; omega))]
    by_cases hx : X i = true
    · simp only [hx, if_true]; exact h 0 e rfl hx
    · simp [hx]
theorem lastV_of : ∀ {es : List En} {i j : Nat} {e : En} {y : Option ABlock}, es[j]? = some e → X (i + j) = true → valD e.ds b = some y →
    (∀ j' e', j < j' → es[j']? = some e' → X (i + j') = true → valD e'.ds b = none) → lastV X es i b = some y
  | [], i, j, e, y, he, _, _, _ => by simp at he
  | a :: es, i, j, e, y, he, hx, hv, hl => by
    simp only [lastV]
    cases j with
    | zero =>
      cases he
      rw [lastV_eq_none (fun j e' he hx => hl (j + 1) e' (by omega) he (by rw [← hx]; congr 1; omega))]
      rw [Nat.add_zero] at hx
      simp only [hx, if_true]; exact hv
    | succ j =>
      rw [lastV_of (es := es) (i := i + 1) (j := j) he (by rw [← hx]; congr 1; omega) hv (fun j' e' hj he hx => hl (j' + 1) e' (by omega) he (by rw [← hx]; congr 1; omega))]
end

theorem seeT_spec {bits : Nat} {s : Nat} {v : AV} : ∀ {es : List En} {i : Nat} {T : PT AV}, (seeT bits es i T).get s = some v →
    T.get s = some v ∨ ∃ j e, es[j]? = some e ∧ Nat.testBit bits (i + j) = true ∧ e.dst = some s ∧ e.v = v
  | [], _, _, h => .inl h
  | e :: es, i, T, h => by
    simp only [seeT, cnd_eq] at h
    have next : ∀ {T' : PT AV}, (seeT bits es (i + 1) T').get s = some v → T'.get s = some v ∨ ∃ j e', (e :: es)[j]? = some e' ∧ Nat.testBit bits (i + j) = true ∧ e'.dst = some s ∧ e'.v = v := by
      intro T' h
      rcases seeT_spec h with h | ⟨j, e', h1, h2, h3⟩
      · exact .inl h
      · exact .inr ⟨j + 1, e', h1, by rw [← h2]; congr 1; omega, h3⟩
    split at h
    · rename_i hb
      split at h
      · rename_i d hd
        rw [PT.force_eq] at h
        rcases next h with h | h
        · rw [PT.get_put] at h
          split at h
          · rename_i q; cases h; subst q; exact .inr ⟨0, e, rfl, hb, hd, rfl⟩
          · exact .inl h
        · exact .inr h
      · exact next h
    · exact next h
theorem delAll_get {b : Nat} : ∀ {u : List Nat} {t : PT ABlock}, (delAll u t).get b = if b ∈ u then none else t.get b
  | [], t => by simp [delAll]
  | c :: u, t => by
    simp only [delAll, PT.force_eq]
    rw [delAll_get, PT.get_put]
    by_cases h : b ∈ u
    · simp [h]
    · by_cases e : b = c
      · simp [e]
      · simp [h, e]
theorem besides_mem {i bits b : Nat} : ∀ {es : List En} {k : Nat}, b ∈ besides i bits es k ↔ ∃ j e, es[j]? = some e ∧ i ≠ k + j ∧ Nat.testBit bits (k + j) = false ∧ Nat.testBit e.bits i = false ∧ b ∈ e.log
  | [], k => by simp [besides]
  | e :: es, k => by
    have ih := besides_mem (i := i) (bits := bits) (b := b) (es := es) (k := k + 1)
    have tail : (∃ j e', es[j]? = some e' ∧ i ≠ (k + 1) + j ∧ Nat.testBit bits (k + 1 + j) = false ∧ Nat.testBit e'.bits i = false ∧ b ∈ e'.log) ↔
        ∃ j e', (e :: es)[j + 1]? = some e' ∧ i ≠ k + (j + 1) ∧ Nat.testBit bits (k + (j + 1)) = false ∧ Nat.testBit e'.bits i = false ∧ b ∈ e'.log := by
      constructor <;> rintro ⟨j, e', h1, h2, h3, h4⟩ <;> refine ⟨j, e', h1, by omega, ?_, h4⟩ <;> rw [← h3] <;> congr 1 <;> omega
    simp only [besides, cnd_eq]
    split
    · rename_i hc
      rw [ih, tail]
      constructor
      · rintro ⟨j, h⟩; exact ⟨j + 1, h⟩
      · rintro ⟨j, e', h1, h2, h3, h4, h5⟩
        cases j with
        | zero =>
          cases h1
          simp only [Nat.add_zero] at h2 h3
          simp [beq_nat, h2, h3, h4] at hc
        | succ j => exact ⟨j, e', h1, h2, h3, h4, h5⟩
    · rename_i hc
      simp only [Bool.or_eq_true, not_or, beq_nat, decide_eq_true_eq, Bool.not_eq_true] at hc
      rw [List.mem_append, ih, tail]
      constructor
      · rintro (h | ⟨j, h⟩)
        · exact ⟨0, e, rfl, hc.1.1, hc.1.2, hc.2, h⟩
        · exact ⟨j + 1, h⟩
      · rintro ⟨j, e', h1, h2, h3, h4, h5⟩
        cases j with
        | zero => cases h1; exact .inl h5
        | succ j => exact .inr ⟨j, e', h1, h2, h3, h4, h5⟩
theorem bare_get {i s : Nat} {v : AV} : ∀ {l : List Oper} {bl : List Nat} {k : Nat} {T : PT AV}, (bare i k l bl T).get s = some v →
    T.get s = some v ∧ ∀ (j : Nat) (o : Oper) (b : Nat), l[j]? = some o → bl[j]? = some b → o.dst = some s → k + j = i ∨ Nat.testBit b i = true
  | [], [], k, T, h => ⟨h, fun j o b ho => by simp at ho⟩
  | [], _ :: _, k, T, h => by cases h
  | _ :: _, [], k, T, h => by cases h
  | o :: l, b :: bl, k, T, h => by
    simp only [bare, cnd_eq] at h
    have tail : ∀ {T' : PT AV}, (bare i (Nat.succ k) l bl T').get s = some v → (T'.get s = some v → T.get s = some v ∧ (o.dst = some s → k = i ∨ Nat.testBit b i = true)) →
        T.get s = some v ∧ ∀ (j : Nat) (o' : Oper) (b' : Nat), (o :: l)[j]? = some o' → (b :: bl)[j]? = some b' → o'.dst = some s → k + j = i ∨ Nat.testBit b' i = true := by
      intro T' h1 h2
      obtain ⟨h3, h4⟩ := bare_get h1
      obtain ⟨h5, h6⟩ := h2 h3
      refine ⟨h5, fun j o' b' ho hb hd => ?_⟩
      cases j with
      | zero => cases ho; cases hb; exact h6 hd
      | succ j =>
        rcases h4 j o' b' ho hb hd with q | q
        · have q : k + 1 + j = i := q
          exact .inl (by omega)
        · exact .inr q
    split at h
    · rename_i hc
      refine tail h fun h1 => ⟨h1, fun _ => ?_⟩
      simpa [beq_nat] using hc
    · split at h
      · rename_i d hd
        rw [PT.force_eq] at h
        refine tail h fun h1 => ?_
        rw [PT.get_put] at h1
        split at h1
        · cases h1
        · rename_i q
          exact ⟨h1, fun z => by rw [hd] at z; cases z; exact absurd rfl q⟩
      · rename_i hd
        exact tail h fun h1 => ⟨h1, fun z => by rw [hd] at z; cases z⟩
theorem bitsEn_get : ∀ {es : List En} {i : Nat}, (bitsEn es)[i]? = (es[i]?).map (·.bits)
  | [], i => by simp [bitsEn]
  | e :: es, 0 => rfl
  | e :: es, i + 1 => by simp only [bitsEn, List.getElem?_cons_succ]; exact bitsEn_get
end Go.Ev
namespace Go.Ev

theorem testBit_lor (a b j : Nat) : Nat.testBit (Nat.lor a b) j = (Nat.testBit a j || Nat.testBit b j) := Nat.testBit_or a b j
theorem testBit_one (n j : Nat) : Nat.testBit (Nat.shiftLeft 1 n) j = decide (n = j) := by
  have : Nat.shiftLeft 1 n = 2 ^ n := Nat.one_shiftLeft n
  rw [this, Nat.testBit_two_pow]

theorem bitsOf_spec {es : List En} {o : Oper} {j : Nat} : Nat.testBit (bitsOf es o) j = true ↔
    ∃ e ∈ o.after.toList, Region.binds .any e = true ∧ (e.on = j ∨ ∃ x, es[e.on]? = some x ∧ Nat.testBit x.bits j = true) := by
  unfold bitsOf
  have key : ∀ (l : List Edge) (s : Nat), Nat.testBit (l.foldl (fun s e => cnd (Region.binds .any e) (Nat.lor s (Nat.lor (Nat.shiftLeft 1 e.on) (match nth es e.on with
      | some x => x.bits
      | none => 0))) s) s) j = true ↔ Nat.testBit s j = true ∨ ∃ e ∈ l, Region.binds .any e = true ∧ (e.on = j ∨ ∃ x, es[e.on]? = some x ∧ Nat.testBit x.bits j = true) := by
    intro l
    induction l with
    | nil => intro s; simp
    | cons e l ih =>
      intro s
      rw [List.foldl_cons, ih, cnd_eq]
      by_cases hb : Region.binds .any e = true
      · rw [if_pos hb, testBit_lor, testBit_lor, testBit_one, nth_eq]
        have hx : Nat.testBit (match es[e.on]? with
            | some x => x.bits
            | none => 0) j = true ↔ ∃ x, es[e.on]? = some x ∧ Nat.testBit x.bits j = true := by
          cases es[e.on]? with
          | none => simp
          | some x => simp
        simp only [Bool.or_eq_true, decide_eq_true_eq, hx, List.mem_cons]
        constructor
        · rintro ((h | h | h) | ⟨e', h1, h2⟩)
          · exact .inl h
          · exact .inr ⟨e, .inl rfl, hb, .inl h⟩
          · exact .inr ⟨e, .inl rfl, hb, .inr h⟩
          · exact .inr ⟨e', .inr h1, h2⟩
        · rintro (h | ⟨e', rfl | h1, h2, h3⟩)
          · exact .inl (.inl h)
          · exact .inl (.inr h3)
          · exact .inr ⟨e', h1, h2, h3⟩
      · rw [if_neg hb]
        constructor
        · rintro (h | ⟨e', h1, h2⟩)
          · exact .inl h
          · exact .inr ⟨e', List.mem_cons_of_mem _ h1, h2⟩
        · rintro (h | ⟨e', h1, h2, h3⟩)
          · exact .inl h
          · rcases List.mem_cons.1 h1 with rfl | h1
            · exact absurd h2 hb
            · exact .inr ⟨e', h1, h2, h3⟩
  refine (key o.after.toList 0).trans ?_
  simp

theorem backEdges_spec : ∀ {l : List Oper} {k : Nat}, backEdges l k = true → ∀ i o, l[i]? = some o → ∀ e ∈ o.after.toList, Region.binds .any e = true → e.on < k + i
  | [], _, _, i, o, ho, _, _, _ => by simp at ho
  | a :: l, k, h, i, o, ho, e, he, hb => by
    simp only [backEdges, Bool.and_eq_true, List.all_eq_true] at h
    cases i with
    | zero =>
      cases ho
      have := h.1 e he
      simp only [hb, Bool.not_true, Bool.false_or] at this
      exact blt_iff.1 this
    | succ i =>
      have := backEdges_spec h.2 i o ho e he hb
      have : e.on < k + 1 + i := this
      omega

theorem noDst_spec {d : Nat} : ∀ {es : List En}, noDst d es = true → ∀ e ∈ es, e.dst ≠ some d
  | [], _, e, he => by simp at he
  | a :: es, h, e, he => by
    simp only [noDst, Bool.and_eq_true] at h
    rcases List.mem_cons.1 he with rfl | he
    · intro q
      rw [q] at h
      simp [beq_nat] at h
    · exact noDst_spec h.2 e he
theorem dsts_spec : ∀ {es : List En}, dsts es = true → ∀ (i j : Nat) (e e' : En) (d : Nat), i < j → es[i]? = some e → es[j]? = some e' → e.dst = some d → e'.dst ≠ some d
  | [], _, i, j, e, e', d, _, h, _, _ => by simp at h
  | a :: es, h, i, j, e, e', d, hij, hi, hj, hd => by
    simp only [dsts, Bool.and_eq_true] at h
    obtain ⟨j, rfl⟩ : ∃ q, j = q + 1 := ⟨j - 1, by omega⟩
    cases i with
    | zero =>
      cases hi
      rw [hd] at h
      exact noDst_spec h.1 e' (List.mem_of_getElem? hj)
    | succ i => exact dsts_spec h.2 i j e e' d (by omega) hi hj hd

theorem out_all {p : Nat → Bool} {x : ABlock} (h : x.out p = true) : x.All p := by
  cases x with
  | cells c fz => exact h
  | map es ck =>
    intro e he
    simp only [ABlock.out, List.all_eq_true, Bool.and_eq_true] at h
    exact h e he
  | mapIter m s l n =>
    intro b hb
    subst hb
    exact h
  | strIter => trivial
  | loop => cases h
  | deferred => trivial
theorem outD_spec {p : Nat → Bool} : ∀ {d : List (Nat × Option ABlock)}, outD p d = true → ∀ b y, (b, y) ∈ d → p b = true ∧ ∀ x, y = some x → x.All p
  | [], _, b, y, hm => by simp at hm
  | (a, none) :: d, h, b, y, hm => by
    simp only [outD, Bool.and_eq_true] at h
    rcases List.mem_cons.1 hm with e | hm
    · cases e; exact ⟨h.1, fun x hx => by cases hx⟩
    · exact outD_spec h.2 b y hm
  | (a, some z) :: d, h, b, y, hm => by
    simp only [outD, Bool.and_eq_true] at h
    rcases List.mem_cons.1 hm with e | hm
    · cases e; exact ⟨h.1.1, fun x hx => by cases hx; exact out_all h.1.2⟩
    · exact outD_spec h.2 b y hm
theorem outside_iff {lo hi b : Nat} : outside lo hi b = true ↔ ¬ (lo ≤ b ∧ b < hi) := by
  unfold outside
  rw [Bool.or_eq_true, blt_iff, ble_iff]
  omega
mutual
theorem AV.all_true {p : Nat → Bool} (hp : ∀ b, p b = true) : ∀ v : AV, v.all p = true
  | .ptr b _ | .slice b _ _ _ | .sliceU b _ _ _ | .map b | .yield b => hp b
  | .fn _ caps => allL_true hp caps
  | .iface _ v => AV.all_true hp v
  | .agg l => allL_true hp l
  | .tup l => allL_true hp l
  | .bool _ | .int _ _ | .str _ | .nilp | .nils | .nilm | .nilf | .nili => rfl
theorem allL_true {p : Nat → Bool} (hp : ∀ b, p b = true) : ∀ l : List AV, allL p l = true
  | [] => rfl
  | v :: l => by simp only [allL, AV.all_true hp v, allL_true hp l, Bool.and_self]
end
theorem ABlock.all_true {p : Nat → Bool} (hp : ∀ b, p b = true) : ∀ x : ABlock, x.All p
  | .cells c _ => allL_true hp c
  | .map _ _ => fun e _ => ⟨AV.all_true hp e.1, AV.all_true hp e.2.1⟩
  | .mapIter _ _ _ _ => fun b _ => hp b
  | .strIter _ _ => trivial
  | .loop _ _ _ _ T _ _ _ df => ⟨fun _ v _ => AV.all_true hp v, hp df⟩
  | .deferred => trivial
theorem apart_spec {lo hi i : Nat} : ∀ {es : List En}, apart lo hi i es = true → ∀ e ∈ es, Nat.testBit e.bits i = false → e.v.all (outside lo hi) = true ∧ outD (outside lo hi) e.ds = true
  | [], _, e, he, _ => by simp at he
  | a :: es, h, e, he, hb => by
    simp only [apart, Bool.and_eq_true, Bool.or_eq_true] at h
    rcases List.mem_cons.1 he with rfl | he
    · rcases h.1 with q | q
      · rw [hb] at q; cases q
      · exact q
    · exact apart_spec h.2 e he hb
theorem aparts_spec : ∀ {es : List En} {k : Nat}, aparts es k = true → ∀ i e, es[i]? = some e → e.lo ≤ e.hi ∧
    ∀ j e', i < j → es[j]? = some e' → Nat.testBit e'.bits (k + i) = false → e'.v.all (outside e.lo e.hi) = true ∧ ∀ b y, (b, y) ∈ e'.ds → ¬ (e.lo ≤ b ∧ b < e.hi) ∧ ∀ x, y = some x → x.All (outside e.lo e.hi)
  | [], _, _, i, e, he => by simp at he
  | a :: es, k, h, i, e, he => by
    simp only [aparts, Bool.and_eq_true, Bool.or_eq_true] at h
    cases i with
    | zero =>
      cases he
      refine ⟨ble_iff.1 h.1.1, fun j e' hj he' hb => ?_⟩
      obtain ⟨j, rfl⟩ : ∃ q, j = q + 1 := ⟨j - 1, by omega⟩
      rcases h.1.2 with q | q
      · have q := Nat.eq_of_beq_eq_true q
        have hp : ∀ b, outside a.lo a.hi b = true := fun b => outside_iff.2 (by omega)
        exact ⟨AV.all_true hp _, fun b y _ => ⟨by omega, fun x _ => ABlock.all_true hp x⟩⟩
      · obtain ⟨h1, h2⟩ := apart_spec q e' (List.mem_of_getElem? he') hb
        exact ⟨h1, fun b y hm => ⟨outside_iff.1 (outD_spec h2 b y hm).1, (outD_spec h2 b y hm).2⟩⟩
    | succ i =>
      obtain ⟨h1, h2⟩ := aparts_spec h.2 i e he
      refine ⟨h1, fun j e' hj he' hb => ?_⟩
      obtain ⟨j, rfl⟩ : ∃ q, j = q + 1 := ⟨j - 1, by omega⟩
      exact h2 j e' (by omega) he' (by rw [← hb]; congr 1; omega)

theorem disjN_spec : ∀ {l u : List Nat}, disjN l u = true → ∀ b ∈ l, b ∉ u
  | [], _, _, b, hb => by simp at hb
  | c :: l, u, h, b, hb => by
    simp only [disjN, Bool.and_eq_true, Bool.not_eq_true'] at h
    rcases List.mem_cons.1 hb with rfl | hb
    · intro q; rw [memN_iff.2 q] at h; cases h.1
    · exact disjN_spec h.2 b hb

section
variable {C : Ctx} {ih : Ev} {ops : List Oper} {bl : List Nat} {T : PT AV} {t : PT ABlock}
theorem check2_spec {es : List En} : ∀ {l : List Oper} {r : List En} {k : Nat}, check2 C ih ops bl T t es l r k = true → ∀ i o e, l[i]? = some o → r[i]? = some e →
    besides (k + i) e.bits es 0 = [] ∨ ((∀ b ∈ e.log, b ∉ besides (k + i) e.bits es 0) ∧ ∃ v, evOne C ih ops o (seeT e.bits es 0 (bare (k + i) 0 ops bl T)) ⟨delAll (besides (k + i) e.bits es 0) (seeH e.bits es 0 t), e.lo, e.lo, []⟩ = some v ∧
      v.v = e.v ∧ v.h.next = e.hi ∧ v.h.log = e.log ∧ written v.h.t v.h.log ++ news v.h.t e.lo (v.h.next - e.lo) = e.ds)
  | [], _, _, _, i, o, e, ho, _ => by simp at ho
  | _ :: _, [], _, h, _, _, _, _, he => by simp at he
  | a :: l, x :: r, k, h, i, o, e, ho, he => by
    simp only [check2, Bool.and_eq_true] at h
    cases i with
    | succ i =>
      have := check2_spec h.2 i o e ho he
      have e1 : k + 1 + i = k + (i + 1) := by omega
      rw [e1] at this
      exact this
    | zero =>
      cases ho; cases he
      have h := h.1
      split at h
      · rename_i hu; exact .inl hu
      · rename_i u hu
        simp only [Bool.and_eq_true] at h
        obtain ⟨h1, h2⟩ := h
        split at h2
        · rename_i v hv
          simp only [Bool.and_eq_true, Nat.beq_eq] at h2
          obtain ⟨⟨⟨h3, h4⟩, h5⟩, h6⟩ := h2
          exact .inr ⟨disjN_spec h1, v, hv, AV.beq_sound _ _ h3, h4, beqN_sound _ _ h5, beqD_sound _ _ h6⟩
        · cases h2

theorem draw1_spec : ∀ {l : List Oper} {es : List En} {nxt : Nat} {res : List En}, draw1 C ih ops bl T t l es nxt = some res →
    ∃ tail, res = es ++ tail ∧ tail.length = l.length ∧ ∀ i o e, l[i]? = some o → tail[i]? = some e →
      e.bits = bitsOf (res.take (es.length + i)) o ∧ e.dst = o.dst ∧ e.lo = hiOf nxt (tail.take i) ∧
        ∃ r, evOne C ih ops o (seeT e.bits (res.take (es.length + i)) 0 (bare (es.length + i) 0 ops bl T)) ⟨seeH e.bits (res.take (es.length + i)) 0 t, e.lo, e.lo, []⟩ = some r ∧ e = enOf e.bits o.dst e.lo r
  | [], es, nxt, res, h => by cases h; exact ⟨[], by simp, rfl, fun i o e ho => by simp at ho⟩
  | a :: l, es, nxt, res, h => by
    simp only [draw1] at h
    split at h
    · rename_i r hr
      rw [forceN_eq] at h
      obtain ⟨tail, h1, h2, h3⟩ := draw1_spec h
      have hres : res = es ++ (enOf (bitsOf es a) a.dst nxt r :: tail) := by rw [h1]; simp
      refine ⟨enOf (bitsOf es a) a.dst nxt r :: tail, hres, by simp [h2], fun i o e ho he => ?_⟩
      cases i with
      | zero =>
        cases ho; cases he
        have ht : res.take (es.length + 0) = es := by rw [hres, Nat.add_zero, List.take_left]
        rw [ht]
        rw [len_eq] at hr
        exact ⟨rfl, rfl, rfl, r, hr, rfl⟩
      | succ i =>
        have := h3 i o e ho he
        have e1 : (es ++ [enOf (bitsOf es a) a.dst nxt r]).length + i = es.length + (i + 1) := by simp; omega
        rw [e1] at this
        exact this
    · cases h

theorem hiOf_take {n : Nat} : ∀ {es : List En} {i : Nat} {e : En}, es[i]? = some e → hiOf n (es.take (i + 1)) = e.hi
  | a :: es, 0, e, h => by cases h; rfl
  | a :: es, i + 1, e, h => by
    simp only [List.take_succ_cons, hiOf]
    exact hiOf_take h
end
end Go.Ev
namespace Go.Ev

structure DE (C : Ctx) (ih : Ev) (ops : List Oper) (T : PT AV) (t : PT ABlock) (n0 N : Nat) (es : List En) : Prop where
  len : es.length = ops.length
  dst : ∀ (i : Nat) (o : Oper) (e : En), ops[i]? = some o → es[i]? = some e → e.dst = o.dst
  back : ∀ (i : Nat) (o : Oper), ops[i]? = some o → ∀ ed ∈ o.after.toList, Region.binds .any ed = true → ed.on < i
  closed : ∀ (X : Nat → Bool) (i : Nat) (o : Oper) (e : En), ops[i]? = some o → es[i]? = some e → (∀ ed ∈ o.after.toList, Region.binds .any ed = true → X ed.on = true) →
    (∀ (k : Nat) (e' : En), es[k]? = some e' → X k = true → ∀ j, Nat.testBit e'.bits j = true → X j = true) → ∀ j, Nat.testBit e.bits j = true → X j = true
  lt : ∀ (i : Nat) (e : En) (j : Nat), es[i]? = some e → Nat.testBit e.bits j = true → j < i
  trans : ∀ (i : Nat) (e : En) (j : Nat) (e' : En) (k : Nat), es[i]? = some e → Nat.testBit e.bits j = true → es[j]? = some e' → Nat.testBit e'.bits k = true → Nat.testBit e.bits k = true
  lohi : ∀ (i : Nat) (e : En), es[i]? = some e → n0 ≤ e.lo ∧ e.lo ≤ e.hi ∧ e.hi ≤ N
  le : ∀ (i j : Nat) (e e' : En), i < j → es[i]? = some e → es[j]? = some e' → e.hi ≤ e'.lo
  apart : ∀ (i : Nat) (e : En) (j : Nat) (e' : En), i < j → es[i]? = some e → es[j]? = some e' → Nat.testBit e'.bits i = false → e'.v.all (outside e.lo e.hi) = true ∧
    ∀ b y, valD e'.ds b = some y → ¬ (e.lo ≤ b ∧ b < e.hi) ∧ ∀ x, y = some x → x.All (outside e.lo e.hi)
  dsts : ∀ (i j : Nat) (e e' : En) (d : Nat), i ≠ j → es[i]? = some e → es[j]? = some e' → e.dst = some d → e'.dst ≠ some d
  run : ∀ (i : Nat) (o : Oper) (e : En), ops[i]? = some o → es[i]? = some e → ∃ (r : V) (Ti : PT AV) (ti : PT ABlock) (u : List Nat), evOne C ih ops o Ti ⟨ti, e.lo, e.lo, []⟩ = some r ∧
    (∀ s v, Ti.get s = some v → (T.get s = some v ∧ ∀ (j : Nat) (e' : En), es[j]? = some e' → e'.dst = some s → j = i ∨ Nat.testBit e'.bits i = true) ∨ ∃ (j : Nat) (e' : En), es[j]? = some e' ∧ Nat.testBit e.bits j = true ∧ e'.dst = some s ∧ e'.v = v) ∧
    (∀ b, ti.get b = if b ∈ u then none else (lastV (Nat.testBit e.bits) es 0 b).getD (t.get b)) ∧
    (∀ b, b ∈ u ↔ b ∈ besides i e.bits es 0) ∧ (∀ b ∈ e.log, b ∉ u) ∧ r.v = e.v ∧ r.h.next = e.hi ∧ r.h.log = e.log ∧
    ∀ b, valD e.ds b = if b ∈ e.log ∨ (e.lo ≤ b ∧ b < e.hi) then some (r.h.t.get b) else none

theorem hiOf_mono {n : Nat} {es : List En} (h : ∀ (i : Nat) (e : En), es[i]? = some e → e.lo = hiOf n (es.take i) ∧ e.lo ≤ e.hi) : ∀ i j, i ≤ j → j ≤ es.length → hiOf n (es.take i) ≤ hiOf n (es.take j) := by
  intro i j hij hj
  induction j with
  | zero => have : i = 0 := by omega
            subst this; exact Nat.le_refl _
  | succ j ih =>
    rcases Nat.lt_or_ge i (j + 1) with h1 | h1
    · have e1 : es[j]? = some (es[j]'(by omega)) := List.getElem?_eq_getElem (by omega)
      obtain ⟨h2, h3⟩ := h j _ e1
      rw [hiOf_take e1]
      exact Nat.le_trans (ih (by omega) (by omega)) (by rw [← h2]; exact h3)
    · have : i = j + 1 := by omega
      subst this; exact Nat.le_refl _

theorem lastV_take {X : Nat → Bool} {es : List En} {i b : Nat} (hX : ∀ j, i ≤ j → X j = false) : lastV X (es.take i) 0 b = lastV X es 0 b := by
  cases e : lastV X es 0 b with
  | some y =>
    obtain ⟨j, e', h1, h2, h3, h4⟩ := lastV_some e
    rw [Nat.zero_add] at h2
    have hj : j < i := by
      rcases Nat.lt_or_ge j i with h | h
      · exact h
      · rw [hX j h] at h2; cases h2
    refine lastV_of (j := j) (e := e') (by rw [List.getElem?_take, if_pos hj]; exact h1) (by rw [Nat.zero_add]; exact h2) h3 fun j' e'' hj' he hx => h4 j' e'' hj' ?_ hx
    rw [List.getElem?_take] at he
    split at he
    · exact he
    · cases he
  | none =>
    refine lastV_eq_none fun j e' he hx => lastV_none e j e' ?_ hx
    rw [List.getElem?_take] at he
    split at he
    · exact he
    · cases he

theorem de_of {C : Ctx} {ih : Ev} {ops : List Oper} {bl : List Nat} {T : PT AV} {t : PT ABlock} {n0 : Nat} {es : List En} (hd : draw1 C ih ops bl T t ops [] n0 = some es)
    (hbl : beqN (bitsEn es) bl = true) (hb : backEdges ops 0 = true) (hds : dsts es = true) (ha : aparts es 0 = true) (hc : check2 C ih ops bl T t es ops es 0 = true) : DE C ih ops T t n0 (hiOf n0 es) es := by
  obtain ⟨tail, h1, hlen, hdr⟩ := draw1_spec hd
  rw [List.nil_append] at h1
  subst h1
  simp only [List.length_nil, Nat.zero_add] at hdr
  have hback : ∀ (i : Nat) (o : Oper), ops[i]? = some o → ∀ ed ∈ o.after.toList, Region.binds .any ed = true → ed.on < i := fun i o ho ed he hbd => by
    have := backEdges_spec hb i o ho ed he hbd
    omega
  have hbl := beqN_sound _ _ hbl
  have hbare : ∀ (i s : Nat) (v : AV), (bare i 0 ops bl T).get s = some v → T.get s = some v ∧ ∀ (j : Nat) (e' : En), es[j]? = some e' → e'.dst = some s → j = i ∨ Nat.testBit e'.bits i = true := fun i s v hv => by
    obtain ⟨h1, h2⟩ := bare_get hv
    refine ⟨h1, fun j e' he' hd' => ?_⟩
    have hlt := (List.getElem?_eq_some_iff.1 he').1
    rw [hlen] at hlt
    have ho : ops[j]? = some ops[j] := List.getElem?_eq_getElem hlt
    have := h2 j ops[j] e'.bits ho (by rw [← hbl, bitsEn_get, he']; rfl) (by rw [← (hdr j ops[j] e' ho he').2.1]; exact hd')
    rw [Nat.zero_add] at this
    exact this
  have hop : ∀ (i : Nat) (e : En), es[i]? = some e → ∃ o, ops[i]? = some o := fun i e he => by
    have := (List.getElem?_eq_some_iff.1 he).1
    exact ⟨ops[i]'(by omega), List.getElem?_eq_getElem (by omega)⟩
  have hen : ∀ (i : Nat) (o : Oper), ops[i]? = some o → ∃ e, es[i]? = some e := fun i o ho => by
    have := (List.getElem?_eq_some_iff.1 ho).1
    exact ⟨es[i]'(by omega), List.getElem?_eq_getElem (by omega)⟩
  have hbits : ∀ (i : Nat) (o : Oper) (e : En), ops[i]? = some o → es[i]? = some e → ∀ j, Nat.testBit e.bits j = true ↔
      ∃ ed ∈ o.after.toList, Region.binds .any ed = true ∧ (ed.on = j ∨ ∃ x, es[ed.on]? = some x ∧ Nat.testBit x.bits j = true) := fun i o e ho he j => by
    rw [(hdr i o e ho he).1, bitsOf_spec]
    constructor
    · rintro ⟨ed, h1, h2, h3⟩
      refine ⟨ed, h1, h2, h3.imp id fun ⟨x, h4, h5⟩ => ⟨x, ?_, h5⟩⟩
      rw [List.getElem?_take] at h4
      split at h4
      · exact h4
      · cases h4
    · rintro ⟨ed, h1, h2, h3⟩
      refine ⟨ed, h1, h2, h3.imp id fun ⟨x, h4, h5⟩ => ⟨x, ?_, h5⟩⟩
      rw [List.getElem?_take, if_pos (hback i o ho ed h1 h2)]
      exact h4
  have hlt : ∀ (i : Nat) (e : En) (j : Nat), es[i]? = some e → Nat.testBit e.bits j = true → j < i := by
    intro i
    induction i using Nat.strongRecOn with
    | _ i ih =>
      intro e j he hj
      obtain ⟨o, ho⟩ := hop i e he
      obtain ⟨ed, h1, h2, h3⟩ := (hbits i o e ho he j).1 hj
      have h4 := hback i o ho ed h1 h2
      rcases h3 with rfl | ⟨x, h5, h6⟩
      · exact h4
      · exact Nat.lt_trans (ih _ h4 x j h5 h6) h4
  have hlo : ∀ (i : Nat) (e : En), es[i]? = some e → e.lo = hiOf n0 (es.take i) ∧ e.lo ≤ e.hi := fun i e he => by
    obtain ⟨o, ho⟩ := hop i e he
    exact ⟨(hdr i o e ho he).2.2.1, (aparts_spec ha i e he).1⟩
  have hmono := hiOf_mono hlo
  refine ⟨hlen, fun i o e ho he => (hdr i o e ho he).2.1, hback, ?_, hlt, ?_, ?_, ?_, ?_, ?_, ?_⟩
  · intro X i o e ho he h1 h2 j hj
    obtain ⟨ed, h3, h4, h5⟩ := (hbits i o e ho he j).1 hj
    rcases h5 with rfl | ⟨x, h5, h6⟩
    · exact h1 ed h3 h4
    · exact h2 _ x h5 (h1 ed h3 h4) j h6
  · intro i
    induction i using Nat.strongRecOn with
    | _ i ih =>
      intro e j e' k he hj he' hk
      obtain ⟨o, ho⟩ := hop i e he
      obtain ⟨ed, h1, h2, h3⟩ := (hbits i o e ho he j).1 hj
      have h4 := hback i o ho ed h1 h2
      refine (hbits i o e ho he k).2 ⟨ed, h1, h2, .inr ?_⟩
      rcases h3 with rfl | ⟨x, h5, h6⟩
      · exact ⟨e', he', hk⟩
      · exact ⟨x, h5, ih _ h4 x j e' k h5 h6 he' hk⟩
  · intro i e he
    obtain ⟨h1, h2⟩ := hlo i e he
    have hi := (List.getElem?_eq_some_iff.1 he).1
    refine ⟨?_, h2, ?_⟩
    · rw [h1]; exact hmono 0 i (by omega) (by omega)
    · rw [← hiOf_take (n := n0) he]
      have := hmono (i + 1) es.length (by omega) (Nat.le_refl _)
      rw [List.take_length] at this
      exact this
  · intro i j e e' hij he he'
    have hj := (List.getElem?_eq_some_iff.1 he').1
    rw [(hlo j e' he').1, ← hiOf_take (n := n0) he]
    exact hmono (i + 1) j (by omega) (by omega)
  · intro i e j e' hij he he' hbit
    obtain ⟨h1, h2⟩ := (aparts_spec ha i e he).2 j e' hij he' (by rw [Nat.zero_add]; exact hbit)
    exact ⟨h1, fun b y hy => h2 b y (valD_mem hy)⟩
  · intro i j e e' d hij he he' hd
    rcases Nat.lt_or_gt_of_ne hij with h | h
    · exact dsts_spec hds i j e e' d h he he' hd
    · intro q; exact dsts_spec hds j i e' e d h he' he q hd
  · intro i o e ho he
    have hX : ∀ j, i ≤ j → Nat.testBit e.bits j = false := fun j hj => by
      cases q : Nat.testBit e.bits j
      · rfl
      · have := hlt i e j he q; omega
    have hch := check2_spec hc i o e ho he
    rw [Nat.zero_add] at hch
    rcases hch with hu | ⟨hdis, v, h1, h2, h3, h4, h5⟩
    · obtain ⟨_, _, _, r, h1, h2⟩ := hdr i o e ho he
      refine ⟨r, _, _, [], h1, fun s v hv => ?_, fun b => ?_, fun b => by rw [hu], fun b _ => by simp, ?_, ?_, ?_, fun b => ?_⟩
      · rcases seeT_spec hv with h | ⟨j, e', g1, g2, g3⟩
        · exact .inl (hbare i s v h)
        · refine .inr ⟨j, e', ?_, by rw [Nat.zero_add] at g2; exact g2, g3⟩
          rw [List.getElem?_take] at g1
          split at g1
          · exact g1
          · cases g1
      · rw [seeH_eq, ovl_get, lastV_take hX]
        simp
      · rw [h2]; rfl
      · rw [h2]; rfl
      · rw [h2]; rfl
      · have hle := (hlo i e he).2
        have e1 : e.ds = written r.h.t r.h.log ++ news r.h.t e.lo (r.h.next - e.lo) := by rw [h2]; rfl
        have e2 : e.hi = r.h.next := by rw [h2]; rfl
        have e3 : e.log = r.h.log := by rw [h2]; rfl
        have e4 : e.lo + (r.h.next - e.lo) = e.hi := by rw [← e2]; omega
        rw [e1, valD_ds, e3, e4]
    · refine ⟨v, _, _, _, h1, fun s v hv => ?_, fun b => ?_, fun b => Iff.rfl, hdis, h2, h3, h4, fun b => ?_⟩
      · rcases seeT_spec hv with h | ⟨j, e', g1, g2, g3⟩
        · exact .inl (hbare i s v h)
        · exact .inr ⟨j, e', g1, by rw [Nat.zero_add] at g2; exact g2, g3⟩
      · rw [delAll_get, seeH_eq, ovl_get]
      · have hle := (hlo i e he).2
        rw [← h5, valD_ds, h4]
        have e4 : e.lo + (v.h.next - e.lo) = e.hi := by rw [h3]; omega
        rw [e4]
end Go.Ev
namespace Go.Ev

section
variable {P : Program} {Ω : Nat → Option Obj} {C : Ctx} {ih : Ev}

theorem evOne_ok (hC : CtxOk P C) (S : Sound P Ω C ih) {key : FuncId × Nat × Option Nat} {b : Frame} {ρ : Map} {h : AH} {w : World} {T : PT AV} {tmps : Array Value} {df : List Nat}
    (st : St Ω C.G key b ρ h w T tmps df) {ops : Array Oper} {i : Nat} {rest : List Nat} {o : Oper} (ho : ops[i]? = some o) {r : V} (hr : evOne C ih ops.toList o T h = some r) (k : List Item) (cs : List Frame) :
    ∃ ρ' w', Step C.G ρ h w ρ' r.h w' ∧ r.v.lo r.h.next = true ∧
      Steps P (lone (b.atR ⟨tmps, marks ρ df⟩ (.inRegion ops (i :: rest) :: k)) cs w) (lone (b.atR ((Act.mk tmps (marks ρ df)).put o.dst (conc ρ' r.v)) (.inRegion ops rest :: k)) cs w') := by
  have key := evOper_ok hC S st ho (rest := rest) (k := fun v h => Res.one (V.mk v h))
    (Q := fun (r : V) => ∃ ρ' w', Step C.G ρ h w ρ' r.h w' ∧ r.v.lo r.h.next = true ∧
      Steps P (lone (b.atR ⟨tmps, marks ρ df⟩ (.inRegion ops (i :: rest) :: k)) cs w) (lone (b.atR ((Act.mk tmps (marks ρ df)).put o.dst (conc ρ' r.v)) (.inRegion ops rest :: k)) cs w'))
    k cs fun v h' ρ' w' h1 h2 h3 => ⟨ρ', w', h1, h2, h3⟩
  unfold evOne at hr
  cases e : wanted ops.toList T o.guard with
  | none => rw [e] at hr; cases hr
  | some bb =>
    rw [e] at hr key
    cases bb with
    | true =>
      change (opThen ih (evOp o.op C T h) fun v h => Res.one (V.mk v h)).Ok _ at key
      change oneRes (opThen ih (evOp o.op C T h) fun v h => Res.one (V.mk v h)) = some r at hr
      generalize (opThen ih (evOp o.op C T h) fun v h => Res.one (V.mk v h)) = x at key hr
      cases x with
      | one v => cases hr; exact key
      | fail => cases hr
      | many l => cases hr
    | false =>
      change some (V.mk (.tup []) h) = some r at hr
      cases hr
      exact key

structure DInv (G : Nat) (es : List En) (T : PT AV) (n N : Nat) (ρ₀ : Map) (h : AH) (w₀ : World) (X : Nat → Bool) (ρ : Map) (w : World) (tmps : Array Value) : Prop where
  down : ∀ (i : Nat) (e : En), es[i]? = some e → X i = true → ∀ j, Nat.testBit e.bits j = true → X j = true
  sim : Sim G ρ ⟨ovl X es 0 h.t, N, h.mark, []⟩ w
  agree : ∀ i, ¬ (h.next ≤ i ∧ i < N) → ρ i = ρ₀ i
  os : w.os = w₀.os
  tape : w.tape = w₀.tape
  output : w.output = w₀.output
  size : w₀.heap.size ≤ w.heap.size
  frame : ∀ B, B < w₀.heap.size → (∀ b ab, h.t.get b = some ab → ¬ ab.Still → (ρ₀ b).blk ≠ B) → w.heap[B]? = w₀.heap[B]?
  image : ∀ b ab, (ovl X es 0 h.t).get b = some ab → (∃ c x, h.t.get c = some x ∧ (x.Still → ab.Still) ∧ (ρ₀ c).blk = (ρ b).blk) ∨ w₀.heap.size ≤ (ρ b).blk
  tsize : tmps.size = n
  t0 : ∀ s v, T.get s = some v → (∀ (j : Nat) (e : En), es[j]? = some e → X j = true → e.dst ≠ some s) → tmps[s]? = some (conc ρ v)
  dst : ∀ (i : Nat) (e : En) (s : Nat), es[i]? = some e → X i = true → e.dst = some s → tmps[s]? = some (conc ρ e.v)
  vlo : ∀ (i : Nat) (e : En), es[i]? = some e → X i = true → e.v.lo e.hi = true
  blo : ∀ (i : Nat) (e : En) (b : Nat) (y : Option ABlock), es[i]? = some e → X i = true → valD e.ds b = some y → b < e.hi ∧ ∀ x, y = some x → x.Lo e.hi

theorem DInv.base {G : Nat} {es : List En} {T : PT AV} {n N : Nat} {ρ₀ : Map} {h : AH} {w₀ : World} {X : Nat → Bool} {ρ : Map} {w : World} {tmps : Array Value} (I : DInv G es T n N ρ₀ h w₀ X ρ w tmps) (B : Base Ω ρ₀ h w₀)
    {h' : AH} (hh : ∀ b x, h'.t.get b = some x → (ovl X es 0 h.t).get b = some x) : Base Ω ρ h' w := by
  intro g o hg
  obtain ⟨h1, h2⟩ := B g o hg
  have hlt : g < w₀.heap.size := (Array.getElem?_eq_some_iff.1 h1).1
  refine ⟨by rw [I.frame g hlt h2]; exact h1, fun b ab hb hn => ?_⟩
  rcases I.image b ab (hh b ab hb) with ⟨c, x, h3, hst, h4⟩ | h3
  · rw [← h4]; exact h2 c x h3 fun q => hn (hst q)
  · omega

theorem DInv.step (hC : CtxOk P C) (S : Sound P Ω C ih) {key : FuncId × Nat × Option Nat} {b : Frame} {ρ₀ : Map} {h : AH} {w₀ : World} {T : PT AV} {tmps₀ : Array Value} {df : List Nat} (st₀ : St Ω C.G key b ρ₀ h w₀ T tmps₀ df)
    {ops : Array Oper} {N : Nat} {es : List En} (D : DE C ih ops.toList T h.t h.next N es)
    (hdn : ∀ (i : Nat) (e : En) d, es[i]? = some e → e.dst = some d → d < key.2.1)
    {X : Nat → Bool} {ρ : Map} {w : World} {tmps : Array Value} (I : DInv C.G es T key.2.1 N ρ₀ h w₀ X ρ w tmps) {i : Nat} {o : Oper} {e : En} (ho : ops[i]? = some o) (he : es[i]? = some e) (hX : X i = false)
    (hr : ∀ ed ∈ o.after.toList, Region.binds .any ed = true → X ed.on = true) (rest : List Nat) (k : List Item) (cs : List Frame) :
    ∃ ρ' w' tmps', DInv C.G es T key.2.1 N ρ₀ h w₀ (fun j => X j || decide (j = i)) ρ' w' tmps' ∧
      Steps P (lone (b.atR ⟨tmps, marks ρ df⟩ (.inRegion ops (i :: rest) :: k)) cs w) (lone (b.atR ⟨tmps', marks ρ' df⟩ (.inRegion ops rest :: k)) cs w') := by
  have ho' : ops.toList[i]? = some o := by rw [Array.getElem?_toList]; exact ho
  obtain ⟨r, Ti, ti, u, hrun, hTi, hti, hu, hlogu, hv, hnext, hlog, hds⟩ := D.run i o e ho' he
  have bitsX := D.closed X i o e ho' he hr I.down
  obtain ⟨hlo1, hlo2, hlo3⟩ := D.lohi i e he
  have notbit : ∀ (j : Nat) (e' : En), es[j]? = some e' → X j = true → Nat.testBit e'.bits i = false := fun j e' he' hj => by
    cases q : Nat.testBit e'.bits i
    · rfl
    · rw [I.down j e' he' hj i q] at hX; cases hX
  have hdsj : ∀ (j : Nat) (e' : En), es[j]? = some e' → ∀ b y, valD e'.ds b = some y → b ∈ e'.log ∨ (e'.lo ≤ b ∧ b < e'.hi) := fun j e' he' b y hy => by
    have hlt := (List.getElem?_eq_some_iff.1 he').1
    rw [D.len] at hlt
    obtain ⟨_, _, _, _, _, _, _, _, _, _, _, _, h9⟩ := D.run j (ops.toList[j]) e' (List.getElem?_eq_getElem hlt) he'
    rw [h9] at hy
    split at hy
    · assumption
    · cases hy
  have inU : ∀ (j : Nat) (e' : En), es[j]? = some e' → X j = true → Nat.testBit e.bits j = false → ∀ b, b ∈ e'.log → b ∈ u := fun j e' he' hj hbit b hb => by
    rw [hu, besides_mem]
    refine ⟨j, e', he', ?_, by rw [Nat.zero_add]; exact hbit, notbit j e' he' hj, hb⟩
    rintro q
    rw [Nat.zero_add] at q
    subst q
    rw [hX] at hj; cases hj
  have s0 := st₀.sim
  -- what operation i sees lies in the blocks of X
  have visible : ∀ b x, ti.get b = some x → (ovl X es 0 h.t).get b = some x ∧ b < e.lo ∧ x.Lo e.lo ∧ b ∉ u := by
    intro b x hb
    rw [hti] at hb
    split at hb
    · cases hb
    · rename_i hbu
      rw [ovl_get]
      cases hl : lastV (Nat.testBit e.bits) es 0 b with
      | some y =>
        rw [hl] at hb
        have hb : y = some x := hb
        subst hb
        obtain ⟨j, e', h1, h2, h3, h4⟩ := lastV_some hl
        rw [Nat.zero_add] at h2
        have hji := D.lt i e j he h2
        have hlt := (I.blo j e' b _ h1 (bitsX j h2) h3)
        have hle := D.le j i e' e hji h1 he
        refine ⟨?_, by omega, (hlt.2 x rfl).mono (blt_mono hle), hbu⟩
        rw [lastV_of (j := j) (e := e') h1 (by rw [Nat.zero_add]; exact bitsX j h2) h3 fun j' e'' hj' he'' hx => ?_]
        · rfl
        · cases q : valD e''.ds b with
          | none => rfl
          | some y' =>
            exfalso
            rw [Nat.zero_add] at hx
            cases qb : Nat.testBit e.bits j' with
            | true => have := h4 j' e'' hj' he'' (by rw [Nat.zero_add]; exact qb); rw [q] at this; cases this
            | false =>
              rcases hdsj j' e'' he'' b y' q with q' | q'
              · exact hbu (inU j' e'' he'' hx qb b q')
              · have := D.le j j' e' e'' hj' h1 he''
                have := hlt.1
                omega
      | none =>
        rw [hl] at hb
        have hb : h.t.get b = some x := hb
        obtain ⟨h1, h2, _⟩ := s0.blk b x hb
        refine ⟨?_, by omega, h2.mono (blt_mono hlo1), hbu⟩
        rw [lastV_eq_none fun j' e'' he'' hx => ?_]
        · exact hb
        · cases q : valD e''.ds b with
          | none => rfl
          | some y' =>
            exfalso
            rw [Nat.zero_add] at hx
            cases qb : Nat.testBit e.bits j' with
            | true => have := lastV_none hl j' e'' he'' (by rw [Nat.zero_add]; exact qb); rw [q] at this; cases this
            | false =>
              rcases hdsj j' e'' he'' b y' q with q' | q'
              · exact hbu (inU j' e'' he'' hx qb b q')
              · have := (D.lohi j' e'' he'').1
                omega
  have hρ : ∀ j, j < h.next → ρ j = ρ₀ j := fun j hj => I.agree j (by omega)
  have simI : Sim C.G ρ ⟨ti, e.lo, e.lo, []⟩ w :=
    ⟨fun b x hb => by obtain ⟨h1, h2, h3, _⟩ := visible b x hb; exact ⟨h2, h3, (I.sim.blk b x h1).2.2⟩,
      fun b c x y hb hc => I.sim.inj b c x y (visible b x hb).1 (visible c y hc).1, I.sim.glob, Nat.le_trans s0.le hlo1, Nat.le_refl _, fun b hb => I.sim.spot b (hb.imp id fun ⟨x, hx⟩ => ⟨x, (visible b x hx).1⟩)⟩
  have stI : St Ω C.G key b ρ ⟨ti, e.lo, e.lo, []⟩ w Ti tmps df := by
    refine ⟨simI, I.base st₀.base (fun b x hb => (visible b x hb).1), ⟨I.tsize, fun s v hs => ?_⟩, fun s v hs => ?_, fun d hd => Nat.lt_of_lt_of_le (st₀.df d hd) hlo1, fun l hl => Nat.lt_of_lt_of_le (st₀.rd l hl) hlo1, st₀.fn, st₀.kind, ?_⟩
    · rcases hTi s v hs with q | ⟨j, e', h1, h2, h3, h4⟩
      · refine I.t0 s v q.1 fun j e' he' hj hd => ?_
        rcases q.2 j e' he' hd with z | z
        · subst z; rw [hX] at hj; cases hj
        · rw [notbit j e' he' hj] at z; cases z
      · rw [← h4]; exact I.dst j e' s h1 (bitsX j h2) h3
    · rcases hTi s v hs with q | ⟨j, e', h1, h2, h3, h4⟩
      · exact AV.lo_mono hlo1 v (st₀.tb s v q.1)
      · rw [← h4]; exact AV.lo_mono (D.le j i e' e (D.lt i e j he h2) h1 he) _ (I.vlo j e' h1 (bitsX j h2))
    · rw [st₀.ro]
      cases q : key.2.2 with
      | none => rfl
      | some l => simp only [Option.map_some, hρ l (st₀.rd l q)]
  obtain ⟨ρ', w', s, hvlo, hsteps⟩ := evOne_ok hC S stI ho (rest := rest) hrun k cs
  have hag : ∀ c, outside e.lo e.hi c = true → ρ' c = ρ c := fun c hc => s.agree c (by rw [hnext]; exact outside_iff.1 hc)
  have hlogLt : ∀ c, c ∈ e.log → c < e.lo := fun c hc => by
    rw [← hlog] at hc
    exact (s.logLt c hc).resolve_left (by simp)
  -- what operations of X name lies outside of what operation i lays
  have K1 : ∀ (j : Nat) (e' : En) c y, es[j]? = some e' → X j = true → valD e'.ds c = some y → ¬ (e.lo ≤ c ∧ c < e.hi) ∧ ∀ x, y = some x → x.All (outside e.lo e.hi) := by
    intro j e' c y he' hj hy
    rcases Nat.lt_trichotomy j i with q | q | q
    · have := D.le j i e' e q he' he
      obtain ⟨h1, h2⟩ := I.blo j e' c y he' hj hy
      exact ⟨by omega, fun x hx => (h2 x hx).mono fun d hd => outside_iff.2 (by rw [blt_iff] at hd; omega)⟩
    · subst q; rw [hX] at hj; cases hj
    · exact (D.apart i e j e' q he he' (notbit j e' he' hj)).2 c y hy
  have K2 : ∀ (j : Nat) (e' : En), es[j]? = some e' → X j = true → e'.v.all (outside e.lo e.hi) = true := by
    intro j e' he' hj
    rcases Nat.lt_trichotomy j i with q | q | q
    · have := D.le j i e' e q he' he
      exact AV.all_mono (fun d hd => outside_iff.2 (by rw [blt_iff] at hd; omega)) _ (I.vlo j e' he' hj)
    · subst q; rw [hX] at hj; cases hj
    · exact (D.apart i e j e' q he he' (notbit j e' he' hj)).1
  have L1 : ∀ c y, valD e.ds c = some y → lastV (fun j => X j || decide (j = i)) es 0 c = some y := by
    intro c y hy
    refine lastV_of (j := i) he (by simp) hy fun j' e'' hj' he'' hx => ?_
    rw [Nat.zero_add] at hx
    have hx : X j' = true := by
      have : j' ≠ i := by omega
      simpa [this] using hx
    cases q : valD e''.ds c with
    | none => rfl
    | some y' =>
      exfalso
      have h1 := (K1 j' e'' c y' he'' hx q).1
      have h2 := (hdsj i e he c y hy).resolve_right h1
      have hle := D.le i j' e e'' hj' he he''
      rcases hdsj j' e'' he'' c y' q with q' | q'
      · have hbit : Nat.testBit e.bits j' = false := by
          cases qb : Nat.testBit e.bits j'
          · rfl
          · have := D.lt i e j' he qb; omega
        exact hlogu c h2 (inU j' e'' he'' hx hbit c q')
      · have := hlogLt c h2
        omega
  have L2 : ∀ c, valD e.ds c = none → lastV (fun j => X j || decide (j = i)) es 0 c = lastV X es 0 c := by
    intro c hc
    have no : ∀ (j' : Nat) (e'' : En), es[j']? = some e'' → (X j' || decide (j' = i)) = true → (X j' = true → valD e''.ds c = none) → valD e''.ds c = none := by
      intro j' e'' he'' hx hq
      by_cases q : j' = i
      · subst q
        rw [he] at he''
        cases he''
        exact hc
      · exact hq (by simpa [q] using hx)
    cases hl : lastV X es 0 c with
    | some y =>
      obtain ⟨j, e', h1, h2, h3, h4⟩ := lastV_some hl
      rw [Nat.zero_add] at h2
      exact lastV_of (j := j) h1 (by rw [Nat.zero_add]; simp [h2]) h3 fun j' e'' hj' he'' hx => no j' e'' he'' (by rw [Nat.zero_add] at hx; exact hx) fun q => h4 j' e'' hj' he'' (by rw [Nat.zero_add]; exact q)
    | none => exact lastV_eq_none fun j' e'' he'' hx => no j' e'' he'' (by rw [Nat.zero_add] at hx; exact hx) fun q => lastV_none hl j' e'' he'' (by rw [Nat.zero_add]; exact q)
  have nm : ∀ c x, (ovl X es 0 h.t).get c = some x → x.All (outside e.lo e.hi) ∧ ¬ (e.lo ≤ c ∧ c < e.hi) := by
    intro c x hc
    rw [ovl_get] at hc
    cases hl : lastV X es 0 c with
    | some y =>
      rw [hl] at hc
      have hc : y = some x := hc
      obtain ⟨j, e', h1, h2, h3, _⟩ := lastV_some hl
      rw [Nat.zero_add] at h2
      obtain ⟨h5, h6⟩ := K1 j e' c y h1 h2 h3
      exact ⟨h6 x hc, h5⟩
    | none =>
      rw [hl] at hc
      obtain ⟨h1, h2, _⟩ := s0.blk c x hc
      exact ⟨h2.mono fun d hd => outside_iff.2 (by rw [blt_iff] at hd; omega), by omega⟩
  -- each block is either what operation i leaves, or hidden from it
  have cls : ∀ c x, (ovl (fun j => X j || decide (j = i)) es 0 h.t).get c = some x → r.h.t.get c = some x ∨ (ti.get c = none ∧ (ovl X es 0 h.t).get c = some x) := by
    intro c x hc
    rw [ovl_get] at hc
    cases hval : valD e.ds c with
    | some y =>
      rw [L1 c y hval] at hc
      have hc : y = some x := hc
      rw [hds] at hval
      split at hval
      · cases hval; exact .inl hc
      · cases hval
    | none =>
      rw [L2 c hval, ← ovl_get] at hc
      cases hvis : ti.get c with
      | none => exact .inr ⟨rfl, hc⟩
      | some x' =>
        obtain ⟨h1, h2, _, _⟩ := visible c x' hvis
        rw [h1] at hc
        cases hc
        have hnl : c ∉ r.h.log := fun q => by
          rw [hlog] at q
          rw [hds, if_pos (.inl q)] at hval
          cases hval
        exact .inl ((s.keep c h2 hnl).trans hvis)
  have hid : ∀ c x, ti.get c = none → (ovl X es 0 h.t).get c = some x → ρ' c = ρ c ∧ blockRel ρ' (ρ' c) w' x := by
    intro c x h1 h2
    obtain ⟨h3, h4⟩ := nm c x h2
    have h5 := (I.sim.blk c x h2).2.2
    have h6 : ρ' c = ρ c := hag c (outside_iff.2 h4)
    refine ⟨h6, ?_⟩
    rw [h6]
    refine (h5.of_block (s.frame _ h5.lt fun d y hd hn q => ?_)).all hag h3
    have := (I.sim.inj d c y x (visible d y hd).1 h2 q).resolve_right fun z => hn z.1
    subst this
    rw [h1] at hd; cases hd
  refine ⟨ρ', w', ((Act.mk tmps (marks ρ df)).put o.dst (conc ρ' r.v)).tmps, ⟨?_, ⟨fun c x hc => ?_, fun c d x y hc hd q => ?_, s.sim.glob, I.sim.le, I.sim.mark, fun c hc => ?_⟩, fun j hj => ?_, s.os.trans I.os, s.tape.trans I.tape, s.output.trans I.output, Nat.le_trans I.size s.size, fun B hB hout => ?_,
    fun c x hc => ?_, ?_, ?_, ?_, ?_, ?_⟩, ?_⟩
  · intro j e' he' hj k hk
    by_cases q : j = i
    · subst q
      rw [he] at he'; cases he'
      simp [bitsX k hk]
    · have hj : X j = true := by simpa [q] using hj
      simp [I.down j e' he' hj k hk]
  · rcases cls c x hc with q | ⟨q1, q2⟩
    · obtain ⟨h1, h2, h3⟩ := s.sim.blk c x q
      rw [hnext] at h1 h2
      exact ⟨Nat.lt_of_lt_of_le h1 hlo3, h2.mono (blt_mono hlo3), h3⟩
    · obtain ⟨h1, h2, _⟩ := I.sim.blk c x q2
      exact ⟨h1, h2, (hid c x q1 q2).2⟩
  · have cross : ∀ {c d x y}, r.h.t.get c = some x → ti.get d = none → (ovl X es 0 h.t).get d = some y → (ρ' c).blk = (ρ' d).blk → x.Still ∧ y.Still := by
      intro c d x y h1 h2 h3 q
      rw [(hid d y h2 h3).1] at q
      rcases s.image c x h1 with ⟨f, z, hf, hst, hfz⟩ | hge
      · rcases I.sim.inj f d z y (visible f z hf).1 h3 (hfz.trans q) with this | e
        rotate_left
        · exact ⟨hst e.1, e.2⟩
        exfalso
        subst this
        have hf : ti.get f = some z := hf
        rw [h2] at hf; cases hf
      · exfalso
        have := (I.sim.blk d y h3).2.2.lt
        omega
    rcases cls c x hc with q1 | ⟨q1, q2⟩ <;> rcases cls d y hd with q3 | ⟨q3, q4⟩
    · exact s.sim.inj c d x y q1 q3 q
    · exact .inr (cross q1 q3 q4 q)
    · exact .inr (cross q3 q1 q2 q.symm).symm
    · rw [(hid c x q1 q2).1, (hid d y q3 q4).1] at q
      exact I.sim.inj c d x y q2 q4 q
  · rcases hc with hc | ⟨x, hc⟩
    · exact s.sim.spot c (.inl hc)
    · rcases cls c x hc with q | ⟨q1, q2⟩
      · exact s.sim.spot c (.inr ⟨x, q⟩)
      · rw [(hid c x q1 q2).1]; exact I.sim.spot c (.inr ⟨x, q2⟩)
  · rw [hag j (outside_iff.2 (by omega)), I.agree j hj]
  · rw [s.frame B (Nat.lt_of_lt_of_le hB I.size) fun c x hc hn q => ?_, I.frame B hB hout]
    rcases I.image c x (visible c x hc).1 with ⟨d, y, h1, hst, h2⟩ | h1
    · exact hout d y h1 (fun z => hn (hst z)) (h2.trans q)
    · omega
  · rcases cls c x hc with q | ⟨q1, q2⟩
    · rcases s.image c x q with ⟨d, y, h1, hst, h2⟩ | h1
      · rw [← h2]; exact (I.image d y (visible d y h1).1).imp (fun ⟨c, x, q1, q2, q3⟩ => ⟨c, x, q1, fun z => hst (q2 z), q3⟩) id
      · exact .inr (Nat.le_trans I.size h1)
    · rw [(hid c x q1 q2).1]; exact I.image c x q2
  · cases o.dst with
    | none => exact I.tsize
    | some d => simp only [Act.put, Array.size_setIfInBounds]; exact I.tsize
  · intro q v hq hno
    have h1 : v.lo h.next = true := st₀.tb q v hq
    have h2 : o.dst ≠ some q := by rw [← D.dst i o e ho' he]; exact hno i e he (by simp)
    have h3 : conc ρ' v = conc ρ v := conc_all (p := outside e.lo e.hi) hag v (AV.all_mono (fun d hd => outside_iff.2 (by rw [blt_iff] at hd; omega)) v h1)
    rw [h3, ← I.t0 q v hq fun j e' he' hj => hno j e' he' (by simp [hj])]
    cases hd : o.dst with
    | none => rfl
    | some d =>
      have : d ≠ q := fun z => h2 (by rw [hd, z])
      simp only [Act.put]
      rw [Array.getElem?_setIfInBounds, if_neg this]
  · intro j e' q he' hj hq
    by_cases hji : j = i
    · subst hji
      rw [he] at he'; cases he'
      have hod : o.dst = some q := by rw [← D.dst j o e ho' he]; exact hq
      rw [hod]
      simp only [Act.put]
      rw [Array.getElem?_setIfInBounds, if_pos rfl, if_pos (by rw [I.tsize]; exact hdn j e q he hq), hv]
    · have hj : X j = true := by simpa [hji] using hj
      rw [conc_all (p := outside e.lo e.hi) hag _ (K2 j e' he' hj), ← I.dst j e' q he' hj hq]
      cases hd : o.dst with
      | none => rfl
      | some d =>
        have : d ≠ q := fun z => D.dsts i j e e' d (fun z => hji z.symm) he he' (by rw [D.dst i o e ho' he]; exact hd) (by rw [z]; exact hq)
        simp only [Act.put]
        rw [Array.getElem?_setIfInBounds, if_neg this]
  · intro j e' he' hj
    by_cases hji : j = i
    · subst hji
      rw [he] at he'; cases he'
      rw [← hv, ← hnext]; exact hvlo
    · exact I.vlo j e' he' (by simpa [hji] using hj)
  · intro j e' c y he' hj hy
    by_cases hji : j = i
    · subst hji
      rw [he] at he'; cases he'
      rw [hds] at hy
      split at hy
      · rename_i hc
        cases hy
        refine ⟨?_, fun x hx => ?_⟩
        · rcases hc with hc | hc
          · have := hlogLt c hc; omega
          · exact hc.2
        · rw [← hnext]; exact (s.sim.blk c x hx).2.1
      · cases hy
    · exact I.blo j e' c y he' (by simpa [hji] using hj) hy
  · have hm : marks ρ' df = marks ρ df := marks_congr s stI.df
    rw [hm]
    have := hsteps
    have e1 : (Act.mk tmps (marks ρ df)).put o.dst (conc ρ' r.v) = ⟨((Act.mk tmps (marks ρ df)).put o.dst (conc ρ' r.v)).tmps, marks ρ df⟩ := by
      cases o.dst <;> rfl
    rw [e1] at this
    exact this
end
end Go.Ev
namespace Go.Ev

section
variable {P : Program} {Ω : Nat → Option Obj} {C : Ctx} {ih : Ev}

theorem DInv.congr {G : Nat} {es : List En} {T : PT AV} {n N : Nat} {ρ₀ ρ : Map} {h : AH} {w₀ w : World} {X Y : Nat → Bool} {tmps : Array Value} (I : DInv G es T n N ρ₀ h w₀ X ρ w tmps) (hXY : X = Y) : DInv G es T n N ρ₀ h w₀ Y ρ w tmps := hXY ▸ I

def trues (l : List Bool) : Nat := l.countP id
theorem trues_set {l : List Bool} {i : Nat} (h : l[i]? = some false) : trues (l.set i true) = trues l + 1 := by
  induction l generalizing i with
  | nil => simp at h
  | cons b l ih =>
    cases i with
    | zero => cases h; simp [trues]
    | succ i =>
      have := ih (i := i) h
      simp only [trues, List.set_cons_succ, List.countP_cons] at this ⊢
      omega
theorem trues_lt {l : List Bool} {i : Nat} (h : l[i]? = some false) : trues l < l.length := by
  have h1 := trues_set h
  have h2 : trues (l.set i true) ≤ (l.set i true).length := List.countP_le_length
  rw [List.length_set] at h2
  omega

theorem draws_ok (hC : CtxOk P C) (S : Sound P Ω C ih) {key : FuncId × Nat × Option Nat} {b : Frame} {ρ₀ : Map} {h : AH} {w₀ : World} {T : PT AV} {tmps₀ : Array Value} {df : List Nat} (st₀ : St Ω C.G key b ρ₀ h w₀ T tmps₀ df)
    {ops : Array Oper} {N : Nat} {es : List En} (D : DE C ih ops.toList T h.t h.next N es)
    (hdn : ∀ (i : Nat) (e : En) d, es[i]? = some e → e.dst = some d → d < key.2.1) (k : List Item) (cs : List Frame) :
    ∀ (fuel t : Nat) (listed : Array Bool) (ρ : Map) (w : World) (tmps : Array Value), listed.size = ops.size → trues listed.toList + fuel = ops.size →
      DInv C.G es T key.2.1 N ρ₀ h w₀ (fun j => listed.getD j false) ρ w tmps →
      ∃ (listed' : Array Bool) (ρ' : Map) (w' : World) (tmps' : Array Value), (∀ j, j < ops.size → listed'.getD j false = true) ∧ DInv C.G es T key.2.1 N ρ₀ h w₀ (fun j => listed'.getD j false) ρ' w' tmps' ∧
        Steps P (lone (b.atR ⟨tmps, marks ρ df⟩ (.inRegion ops (Region.linearise.go .any ops fuel t listed []) :: k)) cs w) (lone (b.atR ⟨tmps', marks ρ' df⟩ (.inRegion ops [] :: k)) cs w') := by
  have done : ∀ (listed : Array Bool) (ρ : Map) (w : World) (tmps : Array Value), listed.size = ops.size → DInv C.G es T key.2.1 N ρ₀ h w₀ (fun j => listed.getD j false) ρ w tmps → (∀ j, j < ops.size → listed.getD j false = true) → 
      ∃ (listed' : Array Bool) (ρ' : Map) (w' : World) (tmps' : Array Value), (∀ j, j < ops.size → listed'.getD j false = true) ∧ DInv C.G es T key.2.1 N ρ₀ h w₀ (fun j => listed'.getD j false) ρ' w' tmps' ∧
        Steps P (lone (b.atR ⟨tmps, marks ρ df⟩ (.inRegion ops [] :: k)) cs w) (lone (b.atR ⟨tmps', marks ρ' df⟩ (.inRegion ops [] :: k)) cs w') :=
    fun listed ρ w tmps _ I hall => ⟨listed, ρ, w, tmps, hall, I, .refl P _⟩
  intro fuel
  induction fuel with
  | zero =>
    intro t listed ρ w tmps hsz hcnt I
    simp only [Region.linearise.go, List.reverse_nil]
    refine done listed ρ w tmps hsz I fun j hj => ?_
    cases q : listed.getD j false with
    | true => rfl
    | false =>
      exfalso
      have hj' : listed.toList[j]? = some false := by
        rw [Array.getElem?_toList, Array.getElem?_eq_getElem (by omega)]
        rw [Array.getD_eq_getD_getElem?, Array.getElem?_eq_getElem (by omega)] at q
        simpa using q
      have := trues_lt hj'
      rw [Array.length_toList] at this
      omega
  | succ fuel ih' =>
    intro t listed ρ w tmps hsz hcnt I
    have hgo : Region.linearise.go .any ops (fuel + 1) t listed [] = (match (Region.ready .any ops listed)[t % (Region.ready .any ops listed).length]? with
      | some i => Region.linearise.go .any ops fuel (t / (Region.ready .any ops listed).length) (listed.setIfInBounds i true) [i]
      | none => [].reverse) := rfl
    rw [hgo]
    cases hi : (Region.ready .any ops listed)[t % (Region.ready .any ops listed).length]? with
    | none =>
      have hnil : Region.ready .any ops listed = [] := by
        cases hr : Region.ready .any ops listed with
        | nil => rfl
        | cons x xs =>
          rw [hr] at hi
          have hlt : t % (x :: xs).length < (x :: xs).length := Nat.mod_lt _ (by simp)
          simp at hi
          simp at hlt
          omega
      refine done listed ρ w tmps hsz I fun j => ?_
      induction j using Nat.strongRecOn with
      | _ j ihj =>
        intro hj
        cases q : listed.getD j false with
        | true => rfl
        | false =>
          exfalso
          have ho : ops[j]? = some ops[j] := Array.getElem?_eq_getElem hj
          have hm : j ∈ Region.ready .any ops listed := by
            rw [mem_ready]
            refine ⟨?_, ops[j], ho, fun ed hed hb => ?_⟩
            · rw [Array.getD_eq_getD_getElem?, Array.getElem?_eq_getElem (by omega)] at q ⊢
              simpa using q
            · have := D.back j ops[j] (by rw [Array.getElem?_toList]; exact ho) ed (Array.mem_toList_iff.2 hed) hb
              exact ihj _ this (by omega)
          rw [hnil] at hm
          simp at hm
    | some i =>
      simp only []
      rw [linearise_go_acc, List.reverse_singleton, List.singleton_append]
      obtain ⟨h1, o, ho, h2⟩ := mem_ready.1 (List.mem_of_getElem? hi)
      have hlt : i < ops.size := (Array.getElem?_eq_some_iff.1 ho).1
      have hie : i < es.length := by rw [D.len, Array.length_toList]; exact hlt
      have he : es[i]? = some es[i] := List.getElem?_eq_getElem hie
      have hf : listed[i]? = some false := by
        rw [Array.getD_eq_getD_getElem?, Array.getElem?_eq_getElem (by omega)] at h1
        rw [Array.getElem?_eq_getElem (by omega)]
        simpa using h1
      have hX : listed.getD i false = false := by rw [Array.getD_eq_getD_getElem?, hf]; rfl
      obtain ⟨ρ₁, w₁, tmps₁, I₁, hs₁⟩ := DInv.step hC S st₀ D hdn I ho he hX (fun ed hed hb => h2 ed (Array.mem_toList_iff.1 hed) hb)
        (Region.linearise.go .any ops fuel (t / (Region.ready .any ops listed).length) (listed.setIfInBounds i true) []) k cs
      have hX' : (fun j => listed.getD j false || decide (j = i)) = fun j => (listed.setIfInBounds i true).getD j false := by
        funext j
        rw [Array.getD_eq_getD_getElem?, Array.getD_eq_getD_getElem?, Array.getElem?_setIfInBounds]
        by_cases q : j = i
        · subst q
          rw [if_pos rfl, if_pos (by omega)]
          simp
        · rw [if_neg (fun z => q z.symm)]
          simp [q]
      obtain ⟨l', ρ', w', tmps', hall, I', hs'⟩ := ih' (t / (Region.ready .any ops listed).length) (listed.setIfInBounds i true) ρ₁ w₁ tmps₁ (by rw [Array.size_setIfInBounds]; exact hsz)
        (by rw [Array.toList_setIfInBounds, trues_set (by rw [Array.getElem?_toList]; exact hf)]; omega) (I₁.congr hX')
      exact ⟨l', ρ', w', tmps', hall, I', hs₁.trans hs'⟩

theorem allT_spec {n : Nat} : ∀ {es : List En} {T T' : PT AV}, allT n es T = some T' → (∀ (i : Nat) (e : En) d, es[i]? = some e → e.dst = some d → d < n) ∧
    ∀ s v, T'.get s = some v → (∃ (i : Nat) (e : En), es[i]? = some e ∧ e.dst = some s ∧ e.v = v) ∨ ((∀ (i : Nat) (e : En), es[i]? = some e → e.dst ≠ some s) ∧ T.get s = some v)
  | [], T, T', h => by cases h; exact ⟨fun i e d he => by simp at he, fun s v hv => .inr ⟨fun i e he => by simp at he, hv⟩⟩
  | a :: es, T, T', h => by
    simp only [allT] at h
    split at h
    · rename_i d hd
      rw [cnd_eq] at h
      split at h
      · rename_i hdn
        rw [PT.force_eq] at h
        obtain ⟨h1, h2⟩ := allT_spec h
        refine ⟨fun i e d' he hd' => ?_, fun s v hv => ?_⟩
        · cases i with
          | zero => cases he; rw [hd] at hd'; cases hd'; exact blt_iff.1 hdn
          | succ i => exact h1 i e d' he hd'
        · rcases h2 s v hv with ⟨i, e, h3, h4⟩ | ⟨h3, h4⟩
          · exact .inl ⟨i + 1, e, h3, h4⟩
          · rw [PT.get_put] at h4
            split at h4
            · rename_i q; subst q; cases h4; exact .inl ⟨0, a, rfl, hd, rfl⟩
            · rename_i q
              refine .inr ⟨fun i e he => ?_, h4⟩
              cases i with
              | zero => cases he; rw [hd]; intro z; cases z; exact q rfl
              | succ i => exact h3 i e he
      · cases h
    · rename_i hd
      obtain ⟨h1, h2⟩ := allT_spec h
      refine ⟨fun i e d' he hd' => ?_, fun s v hv => ?_⟩
      · cases i with
        | zero => cases he; rw [hd] at hd'; cases hd'
        | succ i => exact h1 i e d' he hd'
      · rcases h2 s v hv with ⟨i, e, h3, h4⟩ | ⟨h3, h4⟩
        · exact .inl ⟨i + 1, e, h3, h4⟩
        · refine .inr ⟨fun i e he => ?_, h4⟩
          cases i with
          | zero => cases he; rw [hd]; intro z; cases z
          | succ i => exact h3 i e he

theorem foldl_logged {mark c : Nat} : ∀ {k l : List Nat}, c ∈ k.foldl (fun l b => logged mark b l) l ↔ c ∈ l ∨ (c ∈ k ∧ c < mark)
  | [], l => by simp
  | b :: k, l => by
    rw [List.foldl_cons, foldl_logged, mem_logged, List.mem_cons]
    constructor
    · rintro ((h | ⟨rfl, h⟩) | ⟨h1, h2⟩)
      · exact .inl h
      · exact .inr ⟨.inl rfl, h⟩
      · exact .inr ⟨.inr h1, h2⟩
    · rintro (h | ⟨rfl | h1, h2⟩)
      · exact .inl (.inl h)
      · exact .inl (.inr ⟨rfl, h2⟩)
      · exact .inr ⟨h1, h2⟩
theorem logs_mem {mark c : Nat} : ∀ {es : List En} {l : List Nat}, c ∈ logs mark es l ↔ c ∈ l ∨ ((∃ e ∈ es, c ∈ e.log) ∧ c < mark)
  | [], l => by simp [logs]
  | a :: es, l => by
    simp only [logs]
    rw [logs_mem, foldl_logged]
    constructor
    · rintro ((h | ⟨h1, h2⟩) | ⟨⟨e, h1, h2⟩, h3⟩)
      · exact .inl h
      · exact .inr ⟨⟨a, List.mem_cons_self, h1⟩, h2⟩
      · exact .inr ⟨⟨e, List.mem_cons_of_mem _ h1, h2⟩, h3⟩
    · rintro (h | ⟨⟨e, h1, h2⟩, h3⟩)
      · exact .inl (.inl h)
      · rcases List.mem_cons.1 h1 with rfl | h1
        · exact .inl (.inr ⟨h2, h3⟩)
        · exact .inr ⟨⟨e, h1, h2⟩, h3⟩

theorem evDrawS_ok (hC : CtxOk P C) (S : Sound P Ω C ih) {cx : FC} {b : Frame} {ρ : Map} {h : AH} {w : World} {T : PT AV} {tmps : Array Value} {df : List Nat} (st : St Ω C.G cx.key b ρ h w T tmps df) {ops : Array Oper} (t : Nat) (k : List Item) (cs : List Frame) :
    (evDrawS C ih cx ops.toList T df h).Ok (Out P Ω C.G cx.key b ρ h w k cs (lone (b.atR ⟨tmps, marks ρ df⟩ (.inRegion ops (Region.linearise .any ops t) :: k)) cs w)) := by
  unfold evDrawS
  rw [forceL_eq]
  generalize bitsL ops.toList [] = bl
  unfold evDrawL
  split
  case h_2 => trivial
  rename_i es hes
  rw [cnd_eq]
  split
  case isFalse => trivial
  rename_i hchk
  simp only [Bool.and_eq_true] at hchk
  obtain ⟨⟨⟨⟨hbl, hb⟩, hds⟩, ha⟩, hc⟩ := hchk
  split
  case h_2 => trivial
  rename_i T' hT'
  have D := de_of hes hbl hb hds ha hc
  obtain ⟨hdn, hTs⟩ := allT_spec hT'
  have s0 := st.sim
  have hN : h.next ≤ hiOf h.next es := by
    have := hiOf_mono (n := h.next) (es := es) (fun i e he => ⟨?_, (D.lohi i e he).2.1⟩) 0 es.length (Nat.zero_le _) (Nat.le_refl _)
    · rw [List.take_length] at this; exact this
    · have hlt := (List.getElem?_eq_some_iff.1 he).1
      obtain ⟨tail, h1, h2, h3⟩ := draw1_spec hes
      rw [List.nil_append] at h1
      subst h1
      rw [D.len] at hlt
      exact (h3 i (ops.toList[i]) e (List.getElem?_eq_getElem hlt) he).2.2.1
  have no : ∀ j : Nat, (Array.replicate ops.size false).getD j false = false := fun j => by
    rw [Array.getD_eq_getD_getElem?, Array.getElem?_replicate]
    split <;> rfl
  have lnone : ∀ b, lastV (fun j => (Array.replicate ops.size false).getD j false) es 0 b = none := fun b => lastV_eq_none fun j e he hx => by rw [no] at hx; cases hx
  have oget : ∀ b, (ovl (fun j => (Array.replicate ops.size false).getD j false) es 0 h.t).get b = h.t.get b := fun b => by rw [ovl_get, lnone]; rfl
  have I₀ : DInv C.G es T cx.key.2.1 (hiOf h.next es) ρ h w (fun j => (Array.replicate ops.size false).getD j false) ρ w tmps := by
    refine ⟨fun i e _ hx => (by rw [no] at hx; cases hx), ⟨fun b x hb => ?_, fun b c x y hb hc => ?_, s0.glob, Nat.le_trans s0.le hN, Nat.le_trans s0.mark hN, fun b hb => s0.spot b (hb.imp id fun ⟨x, hx⟩ => ⟨x, by rw [← oget]; exact hx⟩)⟩, fun _ _ => rfl, rfl, rfl, rfl, Nat.le_refl _, fun _ _ _ => rfl, fun b x hb => ?_, st.tr.1, fun s v hs _ => ?_, fun i e s _ hx => (by rw [no] at hx; cases hx), fun i e _ hx => (by rw [no] at hx; cases hx), fun i e b y _ hx => (by rw [no] at hx; cases hx)⟩
    · rw [oget] at hb
      obtain ⟨h1, h2, h3⟩ := s0.blk b x hb
      exact ⟨Nat.lt_of_lt_of_le h1 hN, h2.mono (blt_mono hN), h3⟩
    · rw [oget] at hb hc
      exact s0.inj b c x y hb hc
    · rw [oget] at hb
      exact .inl ⟨b, x, hb, id, rfl⟩
    · exact st.tr.2 s v hs
  obtain ⟨l', ρ', w', tmps', hall, I, hs⟩ := draws_ok hC S st D hdn k cs ops.size t (Array.replicate ops.size false) ρ w tmps (by simp) (by
    have : trues (Array.replicate ops.size false).toList = 0 := by
      unfold trues
      rw [List.countP_eq_zero]
      intro a ha
      rw [Array.toList_replicate] at ha
      rw [(List.mem_replicate.1 ha).2]
      simp
    omega) I₀
  have hes' : ∀ (i : Nat) (e : En), es[i]? = some e → l'.getD i false = true := fun i e he => by
    have := (List.getElem?_eq_some_iff.1 he).1
    rw [D.len, Array.length_toList] at this
    exact hall i this
  have lall : ∀ b, lastV (fun _ => true) es 0 b = lastV (fun j => l'.getD j false) es 0 b := fun b => by
    cases q : lastV (fun j => l'.getD j false) es 0 b with
    | some y =>
      obtain ⟨j, e, h1, h2, h3, h4⟩ := lastV_some q
      exact lastV_of h1 rfl h3 fun j' e' hj he' _ => h4 j' e' hj he' (by rw [Nat.zero_add]; exact hes' j' e' he')
    | none => exact lastV_eq_none fun j e he _ => lastV_none q j e he (by rw [Nat.zero_add]; exact hes' j e he)
  have aget : ∀ b, (allH es h.t).get b = (ovl (fun j => l'.getD j false) es 0 h.t).get b := fun b => by
    rw [allH_eq (i := 0), ovl_get, ovl_get, lall]
  have hlogLt : ∀ (i : Nat) (e : En), es[i]? = some e → ∀ b y, valD e.ds b = some y → b ∈ e.log ∨ h.next ≤ b := fun i e he b y hy => by
    have hlt := (List.getElem?_eq_some_iff.1 he).1
    rw [D.len] at hlt
    obtain ⟨_, _, _, _, _, _, _, _, _, _, _, _, h9⟩ := D.run i (ops.toList[i]) e (List.getElem?_eq_getElem hlt) he
    rw [h9] at hy
    split at hy
    · rename_i q
      exact q.imp id fun q => Nat.le_trans (D.lohi i e he).1 q.1
    · cases hy
  have sim' : Sim C.G ρ' ⟨allH es h.t, hiOf h.next es, h.mark, logs h.mark es h.log⟩ w' :=
    I.sim.sub fun b x hb => by rw [aget] at hb; exact hb
  refine ⟨ρ', w', tmps', ⟨I.agree, hN, sim', I.os, I.tape, I.output, I.size, I.frame, fun b x hb => ?_, rfl, fun c hc => logs_mem.2 (.inl hc), fun c hc => (logs_mem.1 hc).imp id (·.2), fun c hc hn => ?_⟩, ⟨sim', I.base st.base (fun b x hb => by rw [← aget]; exact hb), ⟨I.tsize, fun s v hs => ?_⟩, fun s v hs => ?_, fun d hd => Nat.lt_of_lt_of_le (st.df d hd) hN, fun l hl => Nat.lt_of_lt_of_le (st.rd l hl) hN, st.fn, st.kind, ?_⟩, ?_⟩
  · rw [aget] at hb; exact I.image b x hb
  · show (allH es h.t).get c = h.t.get c
    rw [allH_eq (i := 0), ovl_get, lastV_eq_none fun j e he _ => ?_]
    · rfl
    · cases q : valD e.ds c with
      | none => rfl
      | some y =>
        exfalso
        have hc : c < h.mark := hc
        rcases hlogLt j e he c y q with q' | q'
        · exact hn (logs_mem.2 (.inr ⟨⟨e, List.mem_of_getElem? he, q'⟩, hc⟩))
        · have := s0.mark; omega
  · rcases hTs s v hs with ⟨i, e, h1, h2, h3⟩ | ⟨h1, h2⟩
    · rw [← h3]; exact I.dst i e s h1 (hes' i e h1) h2
    · exact I.t0 s v h2 fun j e he _ => h1 j e he
  · rcases hTs s v hs with ⟨i, e, h1, h2, h3⟩ | ⟨h1, h2⟩
    · rw [← h3]; exact AV.lo_mono (D.lohi i e h1).2.2 _ (I.vlo i e h1 (hes' i e h1))
    · exact AV.lo_mono hN _ (st.tb s v h2)
  · rw [st.ro]
    cases q : cx.key.2.2 with
    | none => rfl
    | some l =>
      have := st.rd l q
      simp only [Option.map_some]
      rw [I.agree l (by omega)]
  · exact hs.trans (.one stepR_region_end)
end
end Go.Ev
