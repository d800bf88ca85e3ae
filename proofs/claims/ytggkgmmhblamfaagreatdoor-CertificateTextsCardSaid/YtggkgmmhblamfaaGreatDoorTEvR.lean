/- The evaluator, part R: the control: what is shown of every fuel; one operation, a row of them. -/
import Derived.Test.YtggkgmmhblamfaaGreatDoorTEvO
import Derived.AtR
import Derived.RangeFuncRecord
import Derived.RangeFuncNested
set_option linter.all false
namespace Go.Ev

namespace Res
variable {α β : Type}
theorem ok_append {x y : Res β} {Q : β → Prop} (h : x.Ok Q ∨ y.Ok Q) : (append x y).Ok Q := by
  cases x <;> cases y <;> simp only [append, Ok] at h ⊢ <;> grind
theorem ok_bindL {f : α → Res β} {Q : β → Prop} {a : α} : ∀ {l : List α}, a ∈ l → (f a).Ok Q → (bindL f l).Ok Q
  | b :: l, ha, h => by
    change (append (f b) (bindL f l)).Ok Q
    rcases List.mem_cons.1 ha with rfl | ha
    · exact ok_append (.inl h)
    · exact ok_append (.inr (ok_bindL ha h))
theorem ok_bind {x : Res α} {f : α → Res β} {R : α → Prop} {Q : β → Prop} (hx : x.Ok R) (hf : ∀ a, R a → (f a).Ok Q) : (bind x f).Ok Q := by
  cases x with
  | fail => trivial
  | one a => exact hf a hx
  | many l => obtain ⟨a, ha, hR⟩ := hx; exact ok_bindL ha (hf a hR)
theorem ok_mono {x : Res α} {Q R : α → Prop} (hx : x.Ok Q) (h : ∀ a, Q a → R a) : x.Ok R := by
  cases x with
  | fail => trivial
  | one a => exact h a hx
  | many l => obtain ⟨a, ha, hQ⟩ := hx; exact ⟨a, ha, h a hQ⟩
end Res

/-- The marks of a frame's loops. -/
def marks (ρ : Map) (df : List Nat) : List Deferred := df.map fun d => { target := .collected (ρ d).blk, args := #[] }
abbrev FC.key (cx : FC) : FuncId × Nat × Option Nat := (cx.fn, cx.n, cx.round)

/-- Blocks of the world that no block stands for hold what Ω says. -/
def Base (Ω : Nat → Option Obj) (ρ : Map) (h : AH) (w : World) : Prop := ∀ g o, Ω g = some o → w.heap[g]? = some o ∧ ∀ b ab, h.t.get b = some ab → ¬ ab.Still → (ρ b).blk ≠ g
theorem Step.base {G : Nat} {Ω : Nat → Option Obj} {ρ ρ' : Map} {h h' : AH} {w w' : World} (s : Step G ρ h w ρ' h' w') (B : Base Ω ρ h w) : Base Ω ρ' h' w' := by
  intro g o hg
  obtain ⟨h1, h2⟩ := B g o hg
  have hlt : g < w.heap.size := (Array.getElem?_eq_some_iff.1 h1).1
  refine ⟨by rw [s.frame g hlt h2]; exact h1, fun b ab hb hn => ?_⟩
  rcases s.image b ab hb with ⟨c, x, h3, hst, h4⟩ | h3
  · rw [← h4]; exact h2 c x h3 fun q => hn (hst q)
  · omega

/-- A running frame b, and what is known of its slots. -/
structure St (Ω : Nat → Option Obj) (G : Nat) (key : FuncId × Nat × Option Nat) (b : Frame) (ρ : Map) (h : AH) (w : World) (T : PT AV) (tmps : Array Value) (df : List Nat) : Prop where
  sim : Sim G ρ h w
  base : Base Ω ρ h w
  tr : TR ρ key.2.1 T tmps
  tb : TB h.next T
  df : ∀ d ∈ df, d < h.next
  rd : ∀ l, key.2.2 = some l → l < h.next
  fn : b.fn = key.1
  kind : b.kind = .normal
  ro : b.roundOf = key.2.2.map fun l => (ρ l).blk

/-- How the code is left. -/
def Reach (P : Program) (b : Frame) (tmps : Array Value) (ds : List Deferred) (k : List Item) (cs : List Frame) (w : World) (m : Machine) : X → Prop
  | .norm => Steps P m (lone (b.atR ⟨tmps, ds⟩ k) cs w)
  | .exit id => ∃ k', exitTo id k' = exitTo id k ∧ Steps P m (lone (b.atR ⟨tmps, ds⟩ (.code (.exit id) :: k')) cs w)
  | .goto l => ∃ k', gotoIn l k' = gotoIn l k ∧ Steps P m (lone (b.atR ⟨tmps, ds⟩ (.code (.goto l) :: k')) cs w)
  | .ret => ∃ k', Steps P m (lone (b.atR ⟨tmps, ds⟩ (.code .ret :: k')) cs w)

def Out (P : Program) (Ω : Nat → Option Obj) (G : Nat) (key : FuncId × Nat × Option Nat) (b : Frame) (ρ : Map) (h : AH) (w : World) (k : List Item) (cs : List Frame) (m : Machine) (o : O) : Prop :=
  ∃ ρ' w' tmps', Step G ρ h w ρ' o.h w' ∧ St Ω G key b ρ' o.h w' o.T tmps' o.df ∧ Reach P b tmps' (marks ρ' o.df) k cs w' m o.x

def CallOut (P : Program) (G : Nat) (ρ : Map) (h : AH) (w : World) (f : FuncId) (args : Array Value) (cs : List Frame) (r : V) : Prop :=
  ∃ ρ' w', Step G ρ h w ρ' r.h w' ∧ r.v.lo r.h.next = true ∧
    ∃ fr, Steps P (lone (Frame.enter P f args .normal) cs w) (lone fr cs w') ∧ fr.fn = f ∧ fr.leaving P w' (.returned (conc ρ' r.v))

structure Sound (P : Program) (Ω : Nat → Option Obj) (C : Ctx) (ih : Ev) : Prop where
  code : ∀ (cx : FC) (c : Code) (T : PT AV) (df : List Nat) (h : AH) (b : Frame) (ρ : Map) (tmps : Array Value) (w : World) (k : List Item) (cs : List Frame), St Ω C.G cx.key b ρ h w T tmps df →
    (ih.code cx c T df h).Ok (Out P Ω C.G cx.key b ρ h w k cs (lone (b.atR ⟨tmps, marks ρ df⟩ (.code c :: k)) cs w))
  scope : ∀ (cx : FC) (body cur : Code) (T : PT AV) (df : List Nat) (h : AH) (b : Frame) (ρ : Map) (tmps : Array Value) (w : World) (k : List Item) (cs : List Frame), St Ω C.G cx.key b ρ h w T tmps df →
    (ih.scope cx body cur T df h).Ok (Out P Ω C.G cx.key b ρ h w k cs (lone (b.atR ⟨tmps, marks ρ df⟩ (.code cur :: .inScope body :: k)) cs w))
  call : ∀ (f : FuncId) (args : List AV) (h : AH) (ρ : Map) (w : World) (cs : List Frame), Sim C.G ρ h w → Base Ω ρ h w → loL h.next args = true →
    (ih.call f args h).Ok (CallOut P C.G ρ h w f (concL ρ args).toArray cs)

section
variable {P : Program} {Ω : Nat → Option Obj} {C : Ctx} {ρ ρ' : Map} {h h' : AH} {w w' : World} {G : Nat} {key : FuncId × Nat × Option Nat} {b : Frame} {T : PT AV} {tmps : Array Value} {df : List Nat}

theorem marks_congr (s : Step G ρ h w ρ' h' w') (hd : ∀ d ∈ df, d < h.next) : marks ρ' df = marks ρ df :=
  List.map_congr_left fun d hm => by rw [s.low d (hd d hm)]

theorem St.step (st : St Ω G key b ρ h w T tmps df) (s : Step G ρ h w ρ' h' w') : St Ω G key b ρ' h' w' T tmps df where
  sim := s.sim
  base := s.base st.base
  tr := st.tr.congr s.low st.tb
  tb := st.tb.mono (blt_mono s.next)
  df d hd := Nat.lt_of_lt_of_le (st.df d hd) s.next
  rd l hl := Nat.lt_of_lt_of_le (st.rd l hl) s.next
  fn := st.fn
  kind := st.kind
  ro := by
    rw [st.ro]
    cases e : key.2.2 with
    | none => rfl
    | some l => simp only [Option.map_some, s.low l (st.rd l e)]

theorem St.put (st : St Ω G key b ρ h w T tmps df) {v : AV} (hv : v.lo h.next = true) {d : Nat} (hd : d < key.2.1) : St Ω G key b ρ h w (PT.put (some v) T d) (tmps.setIfInBounds d (conc ρ v)) df where
  sim := st.sim
  base := st.base
  tr := ⟨by rw [Array.size_setIfInBounds]; exact st.tr.1, fun i x hx => by
    rw [PT.get_put] at hx
    rw [Array.getElem?_setIfInBounds]
    split at hx
    · rename_i e
      subst e
      cases hx
      rw [if_pos rfl, if_pos (by rw [st.tr.1]; exact hd)]
    · rename_i e
      rw [if_neg (fun q => e q.symm)]
      exact st.tr.2 i x hx⟩
  tb i x hx := by
    rw [PT.get_put] at hx
    split at hx
    · cases hx; exact hv
    · exact st.tb i x hx
  df := st.df
  rd := st.rd
  fn := st.fn
  kind := st.kind
  ro := st.ro

theorem putTmp_ok {β : Type} {Q : β → Prop} (st : St Ω G key b ρ h w T tmps df) {v : AV} (hv : v.lo h.next = true) {d : Option Nat} {k : PT AV → Res β}
    (hk : ∀ T' tmps', St Ω G key b ρ h w T' tmps' df → (∀ ds, (Act.mk tmps ds).put d (conc ρ v) = ⟨tmps', ds⟩) → (k T').Ok Q) : (putTmp key.2.1 d v T k).Ok Q := by
  cases d with
  | none => exact hk T tmps st fun _ => rfl
  | some d =>
    change (cnd (Nat.blt d key.2.1) (PT.force (PT.put (some v) T d) k) .fail).Ok Q
    rw [cnd_eq]
    split
    · rename_i hd
      rw [PT.force_eq]
      exact hk _ _ (st.put hv (blt_iff.1 hd)) fun _ => rfl
    · trivial

theorem Reach.of_steps {k : List Item} {cs : List Frame} {m m' : Machine} {ds : List Deferred} (hs : Steps P m m') {x : X} (hr : Reach P b tmps ds k cs w m' x) : Reach P b tmps ds k cs w m x := by
  cases x with
  | norm => exact hs.trans hr
  | exit id => obtain ⟨k', h1, h2⟩ := hr; exact ⟨k', h1, hs.trans h2⟩
  | goto l => obtain ⟨k', h1, h2⟩ := hr; exact ⟨k', h1, hs.trans h2⟩
  | ret => obtain ⟨k', h2⟩ := hr; exact ⟨k', hs.trans h2⟩

/-- What comes behind a step. -/
theorem Out.after {k : List Item} {cs : List Frame} {m m' : Machine} {o : O} (s : Step G ρ h w ρ' h' w') (hs : Steps P m m')
    (ho : Out P Ω G key b ρ' h' w' k cs m' o) : Out P Ω G key b ρ h w k cs m o := by
  obtain ⟨ρ₂, w₂, tmps₂, s₂, st₂, hr⟩ := ho
  exact ⟨ρ₂, w₂, tmps₂, s.trans s₂, st₂, .of_steps hs hr⟩

/-- The machines M wait at an operation: their frames are F k then, the world is w. -/
structure Waits (P : Program) (M : List Item → List Frame → Machine) (F : List Item → Frame) (s : Sem Next) (w : World) : Prop where
  stepG_eq : ∀ k cs, ∃ fr w₀, M k cs = lone fr cs w₀ ∧ (stepG P true { frame := fr, callers := cs, status := .running, dying := none } w₀).bare = (stepG.apply P true (F k) cs none s w).bare
  kind : ∀ k, (match (F k).todo with | .call _ true _ _ :: _ => CallKind.wrapped | _ => .normal) = .normal

section
variable {M : List Item → List Frame → Machine} {F : List Item → Frame} {s : Sem Next} {k : List Item} {cs : List Frame}
theorem Waits.value (W : Waits P M F s w) {v : Value} (hr : s.run P w = .ok (.value v) w') : step P (M k cs) = .next (lone ((F k).finish v) cs w') := by
  obtain ⟨fr, w₀, hM, hg⟩ := W.stepG_eq k cs
  rw [hM]
  exact step_lone_go (by rw [hg]; simp [stepG.apply, Sem.runT_eq, hr])
theorem Waits.skip (W : Waits P M F s w) (hr : s.run P w = .ok .skip w') : step P (M k cs) = .next (lone ((F k).finish undef) cs w') := by
  obtain ⟨fr, w₀, hM, hg⟩ := W.stepG_eq k cs
  rw [hM]
  exact step_lone_go (by rw [hg]; simp [stepG.apply, Sem.runT_eq, hr])
theorem Waits.enter (W : Waits P M F s w) {f : FuncId} {args : Array Value} (hr : s.run P w = .ok (.enter f args) w') :
    step P (M k cs) = .next (lone (Frame.enter P f args .normal) (F k :: cs) w') := by
  obtain ⟨fr, w₀, hM, hg⟩ := W.stepG_eq k cs
  rw [hM]
  exact step_lone_go (by rw [hg]; simp only [stepG.apply, Sem.runT_eq, hr]; simp; exact congrArg (Frame.enter P f args) (W.kind k))
theorem Waits.round (W : Waits P M F s w) {l : Nat} {f : FuncId} {ts : Array Value} {x y : Code} (hr : s.run P w = .ok (.round l f ts x y) w') :
    step P (M k cs) = .next (lone (Frame.round l f ts x y .normal) (F k :: cs) w') := by
  obtain ⟨fr, w₀, hM, hg⟩ := W.stepG_eq k cs
  rw [hM]
  exact step_lone_go (by rw [hg]; simp [stepG.apply, Sem.runT_eq, hr])
end
end
end Go.Ev
namespace Go.Ev
section
variable {P : Program} {Ω : Nat → Option Obj} {C : Ctx} {ih : Ev} {ρ ρ' : Map} {h h' : AH} {w w' : World} {G : Nat} {key : FuncId × Nat × Option Nat} {b : Frame} {T : PT AV} {tmps : Array Value} {df : List Nat}

theorem Step.forget (s : Sim G ρ h w) {b : Nat} {old : ABlock} {w' : World} (hold : h.t.get b = some old) (hns : ¬ old.Still)
    (os : w'.os = w.os) (tape : w'.tape = w.tape) (output : w'.output = w.output) (size : w'.heap.size = w.heap.size)
    (hfr : ∀ B, B ≠ (ρ b).blk → w'.heap[B]? = w.heap[B]?) : Step G ρ h w ρ (h.del b) w' := by
  have hget : ∀ c x, (PT.put none h.t b).get c = some x → c ≠ b ∧ h.t.get c = some x := by
    intro c x hx
    rw [PT.get_put] at hx
    split at hx
    · cases hx
    · rename_i e; exact ⟨e, hx⟩
  refine ⟨fun _ _ => rfl, Nat.le_refl _, ⟨fun c x hx => ?_, fun c d x y hx hy e => s.inj c d x y (hget c x hx).2 (hget d y hy).2 e, s.glob, s.le, s.mark, fun c hc => s.spot c (hc.imp id fun ⟨x, hx⟩ => ⟨x, (hget c x hx).2⟩)⟩, os, tape, output, Nat.le_of_eq size.symm, fun B _ hout => hfr B fun e => hout b old hold hns e.symm,
    fun c x hx => .inl ⟨c, x, (hget c x hx).2, id, rfl⟩, rfl, fun c hc => mem_logged.2 (.inl hc), fun c hc => (mem_logged.1 hc).elim .inl fun ⟨e, hlt⟩ => .inr (e ▸ hlt), fun c hc hn => ?_⟩
  · obtain ⟨h1, h2⟩ := hget c x hx
    obtain ⟨h3, h4, h5⟩ := s.blk c x h2
    exact ⟨h3, h4, h5.of_block (hfr _ fun e' => h1 (s.one h2 hold e' hns))⟩
  · change c < h.mark at hc
    change (PT.put none h.t b).get c = _
    rw [PT.get_put, if_neg fun e => hn (mem_logged.2 (.inr ⟨e, e ▸ hc⟩))]

/-- An object is laid in a block's place. -/
theorem Step.putObj (s : Sim G ρ h w) {b : Nat} {old ab : ABlock} {o : Obj} (hold : h.t.get b = some old) (hb : ab.Lo h.next)
    (hr : ∀ w' : World, w'.heap[(ρ b).blk]? = some o → blockRel ρ (ρ b) w' ab) (hns : ¬ old.Still := by exact id) : Step G ρ h w ρ (h.set b ab) (w.putObj (ρ b).blk o) :=
  Step.set s hold hns hb rfl rfl rfl (by simp) (fun B hB => World.putObj_heap_other hB) (hr _ (World.putObj_heap_same (s.blk b old hold).2.2.lt))
theorem Step.forgetObj (s : Sim G ρ h w) {b : Nat} {old : ABlock} {o : Obj} (hold : h.t.get b = some old) (hns : ¬ old.Still := by exact id) : Step G ρ h w ρ (h.del b) (w.putObj (ρ b).blk o) :=
  Step.forget s hold hns rfl rfl rfl (by simp) (fun B hB => World.putObj_heap_other hB)

/-- The loop that a name stands for. -/
theorem Sim.loop (s : Sim G ρ h w) {l : Nat} {st : LoopState} {pend : Option Code} {fn : FuncId} {n : Nat} {T : PT AV} {ps : Array Tmp} {assign body : Code} {df : Nat}
    (hl : h.t.get l = some (.loop st pend fn n T ps assign body df)) : ∃ tmps, TR ρ n T tmps ∧ TB h.next T ∧ df < h.next ∧ l < h.next ∧ (ρ l).shift = 0 ∧
      w.heap[(ρ l).blk]? = some (.loop { state := st, pending := pend, fn, tmps, params := ps, assign, body, defers := (ρ df).blk }) := by
  obtain ⟨h1, h2, h3, tmps, h4, h5⟩ := s.blk l _ hl
  exact ⟨tmps, h4, h2.1, blt_iff.1 h2.2, h1, h3, h5⟩

theorem setParams_ok {n : Nat} : ∀ {ts : List Tmp} {vs : List AV} {T T' : PT AV} {tmps : Array Value}, setParams n ts vs T = some T' → TR ρ n T tmps → TB h.next T → loL h.next vs = true →
    ts.length = vs.length ∧ TR ρ n T' ((ts.zip (concL ρ vs)).foldl (fun tmps p => tmps.setIfInBounds p.1 p.2) tmps) ∧ TB h.next T'
  | [], [], T, T', tmps, e, h1, h2, _ => by cases e; exact ⟨rfl, h1, h2⟩
  | t :: ts, v :: vs, T, T', tmps, e, h1, h2, hv => by
    simp only [setParams, cnd_eq] at e
    split at e
    · rename_i ht
      have ht := blt_iff.1 ht
      simp only [loL, allL, Bool.and_eq_true] at hv
      obtain ⟨h3, h4, h5⟩ := setParams_ok (tmps := tmps.setIfInBounds t (conc ρ v)) e ⟨by rw [Array.size_setIfInBounds]; exact h1.1, fun i x hx => by
        rw [PT.get_put] at hx
        rw [Array.getElem?_setIfInBounds]
        split at hx
        · rename_i e
          subst e
          cases hx
          rw [if_pos rfl, if_pos (by rw [h1.1]; exact ht)]
        · rename_i e
          rw [if_neg (fun q => e q.symm)]
          exact h1.2 i x hx⟩ (fun i x hx => by
            rw [PT.get_put] at hx
            split at hx
            · cases hx; exact hv.1
            · exact h2 i x hx) hv.2
      exact ⟨by simp [h3], h4, h5⟩
    · cases e
  | [], _ :: _, _, _, _, e, _, _, _ => by cases e
  | _ :: _, [], _, _, _, e, _, _, _ => by cases e

def RoundOut (P : Program) (G : Nat) (ρ : Map) (h : AH) (w : World) (c : Frame) (cs : List Frame) (m : Machine) (r : V) : Prop :=
  ∃ ρ' w', Step G ρ h w ρ' r.h w' ∧ r.v.lo r.h.next = true ∧ Steps P m (lone (c.finish (conc ρ' r.v)) cs w')

theorem endRound_ok {P : Program} (s : Sim G ρ h w) {l : Nat} {j : Option Code} {c : Frame} {cs : List Frame} {m : Machine}
    (hs : ∀ v w', (Instr.endRound (ρ l).blk j).run P w = .ok v w' → Steps P m (lone (c.finish v) cs w')) :
    (endRound l j h).Ok (RoundOut P G ρ h w c cs m) := by
  unfold endRound
  split
  · rename_i st pend fn n T ps x y df hl
    obtain ⟨tmps, h1, h2, h3, h4, h5, h6⟩ := s.loop hl
    have hrun := run_endRound (P := P) j h6
    refine ⟨ρ, _, Step.putObj s (o := .loop { state := if j.isNone then .ready else .done, pending := j, fn, tmps, params := ps, assign := x, body := y, defers := (ρ df).blk }) hl ⟨h2, blt_iff.2 h3⟩ fun w' hw' => ⟨h5, tmps, h1, ?_⟩, rfl, hs _ _ hrun⟩
    rw [hw']
    cases j <;> rfl
  · trivial

theorem RoundOut.after {c : Frame} {cs : List Frame} {m m' : Machine} {r : V} (s : Step G ρ h w ρ' h' w') (hs : Steps P m m') (hr : RoundOut P G ρ' h' w' c cs m' r) : RoundOut P G ρ h w c cs m r := by
  obtain ⟨ρ₂, w₂, s₂, h2, h3⟩ := hr
  exact ⟨ρ₂, w₂, s.trans s₂, h2, hs.trans h3⟩

/-- A call of yield: a round. -/
theorem evYield_ok (S : Sound P Ω C ih) (s : Sim C.G ρ h w) (B : Base Ω ρ h w) {l : Nat} {args : List AV} (ha : loL h.next args = true) (c : Frame) (cs : List Frame) :
    (evYield ih l args h).Ok fun r => ∃ l' f ts x y, (Instr.yield (ρ l).blk (concL ρ args).toArray).run P w = .ok (.round l' f ts x y) w ∧
      RoundOut P C.G ρ h w c cs (lone (Frame.round l' f ts x y .normal) (c :: cs) w) r := by
  unfold evYield
  split
  · rename_i pend fn n T ps x y df hl
    split
    · rename_i T' hT'
      obtain ⟨tmps, h1, h2, h3, h4, h5, h6⟩ := s.loop hl
      obtain ⟨hlen, h7, h8⟩ := setParams_ok hT' h1 h2 ha
      have hrun := run_yield (P := P) (w := w) (args := (concL ρ args).toArray) h6 (by simp only [List.size_toArray, concL_length]; rw [← hlen, Array.length_toList])
      refine Res.ok_mono (Q := RoundOut P C.G ρ h w c cs (lone (Frame.round (ρ l).blk fn ((ps.toList.zip (concL ρ args)).foldl (fun tmps p => tmps.setIfInBounds p.1 p.2) tmps) x y .normal) (c :: cs) w)) ?_ fun r hr =>
        ⟨(ρ l).blk, fn, ((ps.toList.zip (concL ρ args)).foldl (fun tmps p => tmps.setIfInBounds p.1 p.2) tmps), x, y, ?_, hr⟩
      rotate_left
      · rw [hrun]
        congr 2
        rw [← Array.foldl_toList, Array.toList_zip]
      generalize ((ps.toList.zip (concL ρ args)).foldl (fun tmps p => tmps.setIfInBounds p.1 p.2) tmps) = ts at h7
      let b : Frame := { (default : Frame) with fn, kind := .normal, roundOf := some (ρ l).blk }
      have st : St Ω C.G (fn, n, some l) b ρ h w T' ts [] := ⟨s, B, h7, h8, fun d hd => by simp at hd, fun l' e => by cases e; exact h4, rfl, rfl, rfl⟩
      refine Res.ok_bind (S.code ⟨fn, n, some l, Nat.sub (Nat.shiftLeft 1 n) 1⟩ x T' [] h b ρ ts w [.beginRound, .code y] (c :: cs) st) fun o ho => ?_
      obtain ⟨ρ₁, w₁, ts₁, s₁, st₁, hr₁⟩ := ho
      obtain ⟨ox, oT, odf, oh⟩ := o
      cases ox <;> try trivial
      change Res.Ok (match oh.t.get l with
        | some (.loop .ready pend fn' n' T' ps assign' body' df) =>
          Res.bind (ih.code ⟨fn, n, some l, 0⟩ y oT odf (oh.set l (.loop .busy pend fn' n' T' ps assign' body' df))) fun o => roundEnd l o
        | _ => .fail) _
      split
      · rename_i pend₁ fn₁ n₁ T₁ ps₁ x₁ y₁ df₁ hl₁
        obtain ⟨tmps₁, g1, g2, g3, g4, g5, g6⟩ := st₁.sim.loop hl₁
        have hbr := run_beginRound (P := P) g6 rfl
        have s₂ := Step.putObj st₁.sim (o := .loop { state := .busy, pending := pend₁, fn := fn₁, tmps := tmps₁, params := ps₁, assign := x₁, body := y₁, defers := (ρ₁ df₁).blk })
          (ab := .loop .busy pend₁ fn₁ n₁ T₁ ps₁ x₁ y₁ df₁) hl₁ ⟨g2, blt_iff.2 g3⟩ fun w' hw' => ⟨g5, tmps₁, g1, hw'⟩
        have st₂ := st₁.step s₂
        refine Res.ok_bind (S.code ⟨fn, n, some l, 0⟩ y oT odf _ b ρ₁ ts₁ _ [] (c :: cs) st₂) fun o ho => ?_
        obtain ⟨ρ₃, w₃, ts₃, s₃, st₃, hr₃⟩ := ho
        obtain ⟨ox, oT', odf', oh'⟩ := o
        have hro : b.roundOf = some (ρ₃ l).blk := st₃.ro
        have e3 : (ρ₁ l).blk = (ρ₃ l).blk := by rw [s₃.low l g4]
        rw [e3] at hbr
        have hs := (s₁.trans s₂).trans s₃
        have start : Steps P (lone (Frame.round (ρ l).blk fn ts x y .normal) (c :: cs) w) (lone (b.atR ⟨ts₁, marks ρ₁ odf⟩ [.code y]) (c :: cs) (w₁.putObj (ρ₁ l).blk (.loop { state := .busy, pending := pend₁, fn := fn₁, tmps := tmps₁, params := ps₁, assign := x₁, body := y₁, defers := (ρ₁ df₁).blk }))) :=
          Steps.trans hr₁ (.one (by rw [e3]; exact stepR_beginRound hro hbr))
        have fin : ∀ {r : V}, RoundOut P C.G ρ₃ oh' w₃ c cs (lone (Frame.round (ρ l).blk fn ts x y .normal) (c :: cs) w) r → RoundOut P C.G ρ h w c cs (lone (Frame.round (ρ l).blk fn ts x y .normal) (c :: cs) w) r :=
          fun hr => RoundOut.after hs (.refl P _) hr
        cases ox with
        | norm =>
          refine Res.ok_mono (endRound_ok (P := P) st₃.sim fun v w' hv => ?_) fun r hr => fin hr
          exact (start.trans hr₃).trans (.one (stepR_round_end hro rfl hv))
        | ret =>
          refine Res.ok_mono (endRound_ok (P := P) st₃.sim fun v w' hv => ?_) fun r hr => fin hr
          obtain ⟨k', hk⟩ := hr₃
          exact (start.trans hk).trans (.one (stepR_round_ret hro rfl hv))
        | exit id =>
          refine Res.ok_mono (endRound_ok (P := P) st₃.sim fun v w' hv => ?_) fun r hr => fin hr
          obtain ⟨k', hx, hk⟩ := hr₃
          exact (start.trans hk).trans (.one (stepR_round_exit hro rfl hx hv))
        | goto g =>
          refine Res.ok_mono (endRound_ok (P := P) st₃.sim fun v w' hv => ?_) fun r hr => fin hr
          obtain ⟨k', hx, hk⟩ := hr₃
          exact (start.trans hk).trans (.one (stepR_round_goto hro rfl hx hv))
      · trivial
    · trivial
  · trivial

/-- An operation, and what comes behind its value. -/
theorem opThen_ok {β : Type} (S : Sound P Ω C ih) {M : List Item → List Frame → Machine} {F : List Item → Frame} {s : Sem Next} (W : Waits P M F s w) {r : R} (hr : OpOk P C.G ρ h w s r) (B : Base Ω ρ h w) {k : AV → AH → Res β} {Q : β → Prop}
    (kk : List Item) (cs : List Frame)
    (hk : ∀ v h' ρ' w', Step C.G ρ h w ρ' h' w' → v.lo h'.next = true → Steps P (M kk cs) (lone ((F kk).finish (conc ρ' v)) cs w') → (k v h').Ok Q) : (opThen ih r k).Ok Q := by
  cases r with
  | fail => trivial
  | val v h' =>
    obtain ⟨ρ', w', h1, h2, h3⟩ := hr
    exact hk v h' ρ' w' h2 h3 (.one (W.value h1))
  | skip h' =>
    obtain ⟨ρ', w', h1, h2⟩ := hr
    exact hk (.tup []) h' ρ' w' h2 rfl (.one (W.skip h1))
  | call f args h' =>
    obtain ⟨ρ', w', h1, h2, h3⟩ := hr
    refine Res.ok_bind (S.call f args h' ρ' w' (F kk :: cs) h2.sim (h2.base B) h3) fun r hr => ?_
    obtain ⟨ρ₂, w₂, h4, h5, fr, h7, _, h8⟩ := hr
    exact hk r.v r.h ρ₂ w₂ (h2.trans h4) h5 (.head (W.enter h1) (h7.trans (.one (step_leave_returned h8))))
  | yield l args h' =>
    obtain ⟨ρ', w', h1, h2, h3, h4⟩ := hr
    refine Res.ok_bind (evYield_ok S h2.sim (h2.base B) (l := l) h4 (F kk) cs) fun r hr => ?_
    obtain ⟨l', f, ts, x, y, h5, ρ₂, w₂, h6, h7, h8⟩ := hr
    exact hk r.v r.h ρ₂ w₂ (h2.trans h6) h7 (.head (W.round (h1.trans h5)) h8)
  | alts l =>
    obtain ⟨x, hx, ρ', w', h1, h2, h3⟩ := hr
    exact Res.ok_bindL hx (hk x.1 x.2 ρ' w' h2 h3 (.one (W.value h1)))

theorem wanted_ok {n : Nat} (hT : TR ρ n T tmps) {ops : Array Oper} {o : Oper} {bb : Bool} (e : wanted ops.toList T o.guard = some bb) : Region.wanted o (yielded ops tmps) = bb := by
  unfold wanted at e
  unfold Region.wanted
  cases hg : o.guard with
  | none => rw [hg] at e; cases e; rfl
  | some g =>
    rw [hg] at e
    change guardOf ops.toList T g = some bb at e
    obtain ⟨j, want⟩ := g
    unfold guardOf at e
    rw [nth_eq, Array.getElem?_toList] at e
    simp only at e
    split at e
    · rename_i x hx
      split at e
      · rename_i d hd
        have hy : ∀ v, T.get d = some v → ((ops[j]?).bind (·.dst)).bind (tmps[·]?) = some (conc ρ v) := by
          intro v hv
          rw [hx]
          simp only [Option.bind_some, hd, hT.2 d v hv]
        show (yielded ops tmps j == some want) = bb
        unfold yielded
        split at e
        · rename_i b hb
          rw [hy _ hb]
          cases e
          cases b <;> cases want <;> rfl
        · rename_i hb
          rw [hy _ hb]
          cases e
          rfl
        · cases e
      · cases e
    · cases e

theorem Act_eval (tmps : Array Value) (ds : List Deferred) : (Act.mk tmps ds).eval = E tmps := by
  funext x; cases x <;> rfl

/-- A frame at an operation that is wanted waits at it. -/
theorem waits_op {ops : Array Oper} {i : Nat} {rest : List Nat} {o : Oper} {ds : List Deferred} (ho : ops[i]? = some o) (hw : Region.wanted o (yielded ops tmps) = true) (hd : ∀ c, o.op ≠ .defer c) :
    Waits P (fun k cs => lone (b.atR ⟨tmps, ds⟩ (.inRegion ops (i :: rest) :: k)) cs w) (fun k => b.atR ⟨tmps, ds⟩ (.inRegion ops (i :: rest) :: k)) (execOp (E tmps) o) w :=
  ⟨fun k cs => ⟨_, _, rfl, by rw [stepGR_op ho hw, Oper.semAt_eq _ _ _ hd, Act_eval]⟩, fun _ => rfl⟩

/-- One operation. -/
theorem evOper_ok (hC : CtxOk P C) (S : Sound P Ω C ih) (st : St Ω C.G key b ρ h w T tmps df) {ops : Array Oper} {i : Nat} {rest : List Nat} {o : Oper} (ho : ops[i]? = some o)
    {β : Type} {k : AV → AH → Res β} {Q : β → Prop} (kk : List Item) (cs : List Frame)
    (hk : ∀ v h' ρ' w', Step C.G ρ h w ρ' h' w' → v.lo h'.next = true →
      Steps P (lone (b.atR ⟨tmps, marks ρ df⟩ (.inRegion ops (i :: rest) :: kk)) cs w) (lone (b.atR ((Act.mk tmps (marks ρ df)).put o.dst (conc ρ' v)) (.inRegion ops rest :: kk)) cs w') → (k v h').Ok Q) :
    (Option.rec (motive := fun _ => Res β) .fail (fun w => cnd w (opThen ih (evOp o.op C T h) k) (k (.tup []) h)) (wanted ops.toList T o.guard)).Ok Q := by
  cases e : wanted ops.toList T o.guard with
  | none => trivial
  | some bb =>
    have hw := wanted_ok st.tr e
    have hfin : ∀ (k : List Item) v, (b.atR ⟨tmps, marks ρ df⟩ (.inRegion ops (i :: rest) :: k)).finish v = b.atR ((Act.mk tmps (marks ρ df)).put o.dst v) (.inRegion ops rest :: k) := by
      intro k v
      rw [Frame.finish_atR, ho]; rfl
    change (cnd bb (opThen ih (evOp o.op C T h) k) (k (.tup []) h)).Ok Q
    cases bb with
    | true =>
      show (opThen ih (evOp o.op C T h) k).Ok Q
      by_cases hd : ∃ c, o.op = .defer c
      · obtain ⟨c, hc⟩ := hd
        rw [hc]
        trivial
      · refine opThen_ok S (waits_op (b := b) (rest := rest) (ds := marks ρ df) ho hw fun c hc => hd ⟨c, hc⟩) (evOp_ok hC st.sim st.tr st.tb o) st.base kk cs fun v h' ρ' w' h1 h2 h3 => hk v h' ρ' w' h1 h2 ?_
        rw [hfin] at h3
        exact h3
    | false =>
      show (k (.tup []) h).Ok Q
      refine hk (.tup []) h ρ w (.refl st.sim) rfl ?_
      refine .one ?_
      have := stepR_op_skip (P := P) (b := b) (a := ⟨tmps, marks ρ df⟩) (k := kk) (cs := cs) (w := w) (ops := ops) (i := i) (rest := rest) (by rw [ho]; simpa using hw)
      rw [ho] at this
      exact this

/-- A row of operations. -/
theorem evSeq_ok (hC : CtxOk P C) (S : Sound P Ω C ih) {ops : Array Oper} (k : List Item) (cs : List Frame) : ∀ (l : List Oper) (i : Nat), ops.toList.drop i = l → ∀ {ρ : Map} {h : AH} {w : World} {T : PT AV} {tmps : Array Value}, St Ω C.G key b ρ h w T tmps df →
    (evSeq C ih key.2.1 ops.toList df l T h).Ok (Out P Ω C.G key b ρ h w k cs (lone (b.atR ⟨tmps, marks ρ df⟩ (.inRegion ops (List.range' i l.length) :: k)) cs w))
  | [], i, _, ρ, h, w, T, tmps, st => ⟨ρ, w, tmps, .refl st.sim, st, Steps.one stepR_region_end⟩
  | o :: l, i, hl, ρ, h, w, T, tmps, st => by
    have ho : ops[i]? = some o := by
      rw [← Array.getElem?_toList]
      have := congrArg (·[0]?) hl
      simpa using this
    have hl' : ops.toList.drop (i + 1) = l := by
      have := congrArg (List.drop 1) hl
      simpa [List.drop_drop] using this
    show (evStep C ih key.2.1 ops.toList o (fun T h => evSeq C ih key.2.1 ops.toList df l T h) T h).Ok _
    unfold evStep
    refine evOper_ok hC S st ho (rest := List.range' (i + 1) l.length) (k := fun v h => putTmp key.2.1 o.dst v T fun T => evSeq C ih key.2.1 ops.toList df l T h) k cs fun v h' ρ' w' h1 h2 h3 => ?_
    refine putTmp_ok (st.step h1) h2 fun T' tmps' st' hput => ?_
    refine Res.ok_mono (evSeq_ok hC S k cs l (i + 1) hl' st') fun o ho => ?_
    refine Out.after h1 ?_ ho
    rw [hput] at h3
    rw [marks_congr h1 st.df]
    exact h3
end
end Go.Ev
namespace Go.Ev
section
variable {P : Program} {Ω : Nat → Option Obj} {C : Ctx} {ih : Ev} {ρ ρ' : Map} {h h' : AH} {w w' : World} {G : Nat} {key : FuncId × Nat × Option Nat} {b : Frame} {T : PT AV} {tmps : Array Value} {df : List Nat}

theorem stepR_scope {a : Act} {k : List Item} {cs : List Frame} {c : Code} : step P (lone (b.atR a (.code (.scope c) :: k)) cs w) = .next (lone (b.atR a (.code c :: .inScope c :: k)) cs w) :=
  step_lone_go (by simp [stepG, stepG.exec, Frame.atR])
theorem stepR_inScope {a : Act} {k : List Item} {cs : List Frame} {c : Code} : step P (lone (b.atR a (.inScope c :: k)) cs w) = .next (lone (b.atR a k) cs w) :=
  step_lone_go (by simp [stepG, stepG.exec, Frame.atR])

theorem Steps.tail {m m₁ m' : Machine} (hs : Steps P m m') (hne : m ≠ m') (h1 : step P m = .next m₁) : Steps P m₁ m' := by
  obtain ⟨n, hn⟩ := hs
  cases n with
  | zero => exact absurd (by simpa [runN] using hn) hne
  | succ n => exact ⟨n, by simpa [runN, h1] using hn⟩
theorem lone_todo {fr fr' : Frame} {cs cs' : List Frame} {w w' : World} (e : lone fr cs w = lone fr' cs' w') : fr.todo = fr'.todo := by
  have := congrArg (fun m : Machine => (m.gs[0]?).map (·.frame.todo)) e
  simpa [lone] using this

theorem exitTo_plain {x : Item} (hx : x.plain = true) (id : Nat) (k : List Item) : exitTo id (x :: k) = exitTo id k := by
  cases x <;> simp_all [exitTo, Item.plain]
theorem gotoIn_plain {x : Item} (hx : x.plain = true) (l : Nat) (k : List Item) : gotoIn l (x :: k) = gotoIn l k := by
  cases x <;> simp_all [gotoIn, Item.plain]

/-- What an outcome that is not the end of the code is, seen from behind a plain item. -/
theorem Out.pass {k : List Item} {cs : List Frame} {m : Machine} {o : O} {x : Item} (ho : Out P Ω G key b ρ h w (x :: k) cs m o) (hx : x.plain = true) (hn : o.x ≠ .norm) :
    Out P Ω G key b ρ h w k cs m o := by
  obtain ⟨ρ', w', tmps', s, st, this⟩ := ho
  refine ⟨ρ', w', tmps', s, st, ?_⟩
  cases e : o.x with
  | norm => exact absurd e hn
  | exit id => rw [e] at this; obtain ⟨k', h1, h2⟩ := this; exact ⟨k', h1.trans (exitTo_plain hx id k), h2⟩
  | goto l => rw [e] at this; obtain ⟨k', h1, h2⟩ := this; exact ⟨k', h1.trans (gotoIn_plain hx l k), h2⟩
  | ret => rw [e] at this; exact this

theorem thenO_ok {k : List Item} {cs : List Frame} {m : Machine} {o : O} {x : Item} (ho : Out P Ω G key b ρ h w (x :: k) cs m o) (hx : x.plain = true) {K : PT AV → List Nat → AH → Res O}
    (hk : ∀ ρ' w' tmps', St Ω G key b ρ' o.h w' o.T tmps' o.df → (K o.T o.df o.h).Ok (Out P Ω G key b ρ' o.h w' k cs (lone (b.atR ⟨tmps', marks ρ' o.df⟩ (x :: k)) cs w'))) :
    (thenO o K).Ok (Out P Ω G key b ρ h w k cs m) := by
  have ho' := ho
  obtain ⟨ox, oT, odf, oh⟩ := o
  cases ox with
  | norm =>
    obtain ⟨ρ', w', tmps', s, st, hr⟩ := ho'
    exact Res.ok_mono (hk ρ' w' tmps' st) fun o' ho' => .after s hr ho'
  | exit id => exact ho.pass hx (by simp)
  | goto l => exact ho.pass hx (by simp)
  | ret => exact ho.pass hx (by simp)

/-- A step, and then. -/
theorem Out.head {k : List Item} {cs : List Frame} {m m' : Machine} {o : O} (ho : Out P Ω G key b ρ h w k cs m' o) (hs : step P m = .next m') : Out P Ω G key b ρ h w k cs m o := by
  obtain ⟨ρ', w', tmps', s, st, hr⟩ := ho
  exact ⟨ρ', w', tmps', s, st, .of_steps (.one hs) hr⟩

def Stmt (P : Program) (Ω : Nat → Option Obj) (C : Ctx) (key : FuncId × Nat × Option Nat) (b : Frame) (ρ : Map) (h : AH) (w : World) (tmps : Array Value) (df : List Nat) (k : List Item) (cs : List Frame) (c : Code) (r : Res O) : Prop :=
  r.Ok (Out P Ω C.G key b ρ h w k cs (lone (b.atR ⟨tmps, marks ρ df⟩ (.code c :: k)) cs w))

variable {k : List Item} {cs : List Frame}
theorem cSkip_ok (st : St Ω C.G key b ρ h w T tmps df) {c : Code} (hc : step P (lone (b.atR ⟨tmps, marks ρ df⟩ (.code c :: k)) cs w) = .next (lone (b.atR ⟨tmps, marks ρ df⟩ k) cs w)) :
    Stmt P Ω C key b ρ h w tmps df k cs c (.one ⟨.norm, T, df, h⟩) := ⟨ρ, w, tmps, .refl st.sim, st, Steps.one hc⟩
theorem cExit_ok (st : St Ω C.G key b ρ h w T tmps df) (id : Nat) : Stmt P Ω C key b ρ h w tmps df k cs (.exit id) (.one ⟨.exit id, T, df, h⟩) :=
  ⟨ρ, w, tmps, .refl st.sim, st, ⟨k, rfl, .refl P _⟩⟩
theorem cGoto_ok (st : St Ω C.G key b ρ h w T tmps df) (l : Nat) : Stmt P Ω C key b ρ h w tmps df k cs (.goto l) (.one ⟨.goto l, T, df, h⟩) :=
  ⟨ρ, w, tmps, .refl st.sim, st, ⟨k, rfl, .refl P _⟩⟩
theorem cRet_ok (st : St Ω C.G key b ρ h w T tmps df) : Stmt P Ω C key b ρ h w tmps df k cs .ret (.one ⟨.ret, T, df, h⟩) :=
  ⟨ρ, w, tmps, .refl st.sim, st, ⟨k, .refl P _⟩⟩

theorem cCond_ok (S : Sound P Ω C ih) {cx : FC} (st : St Ω C.G cx.key b ρ h w T tmps df) (c : Operand) (x y : Code) : Stmt P Ω C cx.key b ρ h w tmps df k cs (.cond c x y) (cCond c x y C ih cx T df h) := by
  unfold cCond
  rw [oe_eq]
  split
  · rename_i v hv
    have h1 := (evOpd_ok st.sim st.tr st.tb hv).1
    rw [AV.boolE_eq]
    clear hv
    cases v <;> try trivial
    rename_i bb
    have he : (Act.mk tmps (marks ρ df)).eval c = .bool bb := by rw [Act_eval, h1]; rfl
    cases bb with
    | true => exact Res.ok_mono (S.code cx x T df h b ρ tmps w k cs st) fun o ho => ho.head (stepR_cond he)
    | false => exact Res.ok_mono (S.code cx y T df h b ρ tmps w k cs st) fun o ho => ho.head (stepR_cond he)
  · trivial

theorem atBlock_ok {m : Machine} {o : O} {id : Nat} (ho : Out P Ω G key b ρ h w (.inBlock id :: k) cs m o) : (atBlock id o).Ok (Out P Ω G key b ρ h w k cs m) := by
  obtain ⟨ρ', w', tmps', s, st, hr⟩ := ho
  obtain ⟨ox, oT, odf, oh⟩ := o
  cases ox with
  | norm => exact ⟨ρ', w', tmps', s, st, Steps.trans hr (.one stepR_inBlock)⟩
  | exit i =>
    change (cnd (Nat.beq i id) (.one ⟨.norm, oT, odf, oh⟩) (.one ⟨.exit i, oT, odf, oh⟩) : Res O).Ok _
    rw [cnd_eq, beq_nat]
    split
    · rename_i e
      have e : i = id := by simpa using e
      subst e
      obtain ⟨k', h1, h2⟩ := hr
      exact ⟨ρ', w', tmps', s, st, Steps.trans h2 (.one (stepR_exit (by rw [h1]; simp [exitTo])))⟩
    · rename_i e
      have e : i ≠ id := by simpa using e
      obtain ⟨k', h1, h2⟩ := hr
      exact ⟨ρ', w', tmps', s, st, ⟨k', h1.trans (by have : (id == i) = false := by simpa using fun q => e q.symm
                                                     simp [exitTo, this]), h2⟩⟩
  | goto l => exact ⟨ρ', w', tmps', s, st, by obtain ⟨k', h1, h2⟩ := hr; exact ⟨k', h1.trans (by simp [gotoIn]), h2⟩⟩
  | ret => exact ⟨ρ', w', tmps', s, st, hr⟩

theorem cBlock_ok (S : Sound P Ω C ih) {cx : FC} (st : St Ω C.G cx.key b ρ h w T tmps df) (id : Nat) (body : Code) : Stmt P Ω C cx.key b ρ h w tmps df k cs (.block id body) (cBlock id body C ih cx T df h) :=
  Res.ok_bind (S.code cx body T df h b ρ tmps w (.inBlock id :: k) cs st) fun o ho => Res.ok_mono (atBlock_ok ho) fun o ho => ho.head stepR_block

theorem cLoop_ok (S : Sound P Ω C ih) {cx : FC} (st : St Ω C.G cx.key b ρ h w T tmps df) (body : Code) : Stmt P Ω C cx.key b ρ h w tmps df k cs (.loop body) (cLoop body C ih cx T df h) := by
  refine Res.ok_bind (S.code ⟨cx.fn, cx.n, cx.round, liveAt body cx.live⟩ body T df h b ρ tmps w (.inLoop body :: k) cs st) fun o ho => ?_
  refine Res.ok_mono (thenO_ok ho (x := .inLoop body) rfl fun ρ' w' tmps' st' => Res.ok_mono (S.code cx (.loop body) o.T o.df o.h b ρ' tmps' w' k cs st') fun o' ho' => ?_) fun o ho => ho.head stepR_loop
  obtain ⟨ρ₂, w₂, tmps₂, s₂, st₂, hr⟩ := ho'
  refine ⟨ρ₂, w₂, tmps₂, s₂, st₂, ?_⟩
  have key : ∀ {m' : Machine}, Steps P (lone (b.atR ⟨tmps', marks ρ' o.df⟩ (.code (.loop body) :: k)) cs w') m' → lone (b.atR ⟨tmps', marks ρ' o.df⟩ (.code (.loop body) :: k)) cs w' ≠ m' →
      Steps P (lone (b.atR ⟨tmps', marks ρ' o.df⟩ (.inLoop body :: k)) cs w') m' := fun h1 h2 => .head stepR_inLoop (Steps.tail h1 h2 stepR_loop)
  cases e : o'.x with
  | norm =>
    rw [e] at hr
    exact key hr fun q => by
      have := congrArg List.length (lone_todo q)
      simp [Frame.atR] at this
  | exit id =>
    rw [e] at hr
    obtain ⟨k', h1, h2⟩ := hr
    exact ⟨k', h1, key h2 fun q => by have := lone_todo q; simp [Frame.atR] at this⟩
  | goto l =>
    rw [e] at hr
    obtain ⟨k', h1, h2⟩ := hr
    exact ⟨k', h1, key h2 fun q => by have := lone_todo q; simp [Frame.atR] at this⟩
  | ret =>
    rw [e] at hr
    obtain ⟨k', h2⟩ := hr
    exact ⟨k', key h2 fun q => by have := lone_todo q; simp [Frame.atR] at this⟩

theorem atScope_ok (S : Sound P Ω C ih) {cx : FC} {body : Code} {m : Machine} {o : O} (ho : Out P Ω C.G cx.key b ρ h w (.inScope body :: k) cs m o) :
    (atScope ih cx body o).Ok (Out P Ω C.G cx.key b ρ h w k cs m) := by
  obtain ⟨ρ', w', tmps', s, st, hr⟩ := ho
  obtain ⟨ox, oT, odf, oh⟩ := o
  unfold atScope
  cases ox with
  | norm => exact ⟨ρ', w', tmps', s, st, Steps.trans hr (.one stepR_inScope)⟩
  | exit id => exact ⟨ρ', w', tmps', s, st, by obtain ⟨k', h1, h2⟩ := hr; exact ⟨k', h1.trans (by simp [exitTo]), h2⟩⟩
  | ret => exact ⟨ρ', w', tmps', s, st, hr⟩
  | goto l =>
    show (match findLabel body l with
      | some rest => ih.scope cx body rest oT odf oh
      | none => .one ⟨.goto l, oT, odf, oh⟩ : Res O).Ok _
    cases e : findLabel body l with
    | some rest =>
      refine Res.ok_mono (S.scope cx body rest oT odf oh b ρ' tmps' w' k cs st) fun o ho => .after s ?_ ho
      obtain ⟨k', h1, h2⟩ := hr
      exact Steps.trans h2 (.one (stepR_goto (by rw [h1]; simp [gotoIn, e])))
    | none => exact ⟨ρ', w', tmps', s, st, by obtain ⟨k', h1, h2⟩ := hr; exact ⟨k', h1.trans (by simp [gotoIn, e]), h2⟩⟩

theorem scope_ok (S : Sound P Ω C ih) {cx : FC} (st : St Ω C.G cx.key b ρ h w T tmps df) (body cur : Code) :
    (Res.bind (ih.code cx cur T df h) fun o => atScope ih cx body o).Ok (Out P Ω C.G cx.key b ρ h w k cs (lone (b.atR ⟨tmps, marks ρ df⟩ (.code cur :: .inScope body :: k)) cs w)) :=
  Res.ok_bind (S.code cx cur T df h b ρ tmps w (.inScope body :: k) cs st) fun _ ho => atScope_ok S ho

theorem cScope_ok (S : Sound P Ω C ih) {cx : FC} (st : St Ω C.G cx.key b ρ h w T tmps df) (body : Code) : Stmt P Ω C cx.key b ρ h w tmps df k cs (.scope body) (cScope body C ih cx T df h) :=
  Res.ok_mono (S.scope cx body body T df h b ρ tmps w k cs st) fun o ho => ho.head stepR_scope

theorem jumpO_ok {j : Option Code} (st : St Ω G key b ρ h w T tmps df) :
    (jumpO T df h j).Ok (Out P Ω G key b ρ h w k cs (lone (b.atR ⟨tmps, marks ρ df⟩ ((j.map Item.code).toList ++ k)) cs w)) := by
  unfold jumpO
  split
  · exact ⟨ρ, w, tmps, .refl st.sim, st, Steps.refl P _⟩
  · exact ⟨ρ, w, tmps, .refl st.sim, st, ⟨k, .refl P _⟩⟩
  · exact ⟨ρ, w, tmps, .refl st.sim, st, ⟨k, rfl, .refl P _⟩⟩
  · exact ⟨ρ, w, tmps, .refl st.sim, st, ⟨k, rfl, .refl P _⟩⟩
  · trivial

theorem stepR_endRangeFunc {a : Act} {k : List Item} {cs : List Frame} {l : Nat} {j : Option Code} (hr : (Instr.endLoop l).run P w = .ok j w') :
    step P (lone (b.atR a (.endRangeFunc l :: k)) cs w) = .next (lone (b.atR a ((j.map Item.code).toList ++ k)) cs w') :=
  step_lone_go (by simp [stepG, stepG.exec, Frame.atR, Sem.runT_eq, hr])

theorem endLoop_ok (st : St Ω G key b ρ h w T tmps df) {l : Nat} : (endLoop l T df h).Ok (Out P Ω G key b ρ h w k cs (lone (b.atR ⟨tmps, marks ρ df⟩ (.endRangeFunc (ρ l).blk :: k)) cs w)) := by
  have go : ∀ {s : LoopState} {pend : Option Code} {fn : FuncId} {n : Nat} {T' : PT AV} {ps : Array Tmp} {x y : Code} {d : Nat}, h.t.get l = some (.loop s pend fn n T' ps x y d) → s ≠ .busy →
      (jumpO T df (h.del l) pend).Ok (Out P Ω G key b ρ h w k cs (lone (b.atR ⟨tmps, marks ρ df⟩ (.endRangeFunc (ρ l).blk :: k)) cs w)) := by
    intro s pend fn n T' ps x y d hl hs
    obtain ⟨ts, h1, h2, h3, h4, h5, h6⟩ := st.sim.loop hl
    have hrun := run_endLoop (P := P) h6 hs
    have s' := Step.forgetObj st.sim (o := .loop { state := .exhausted, pending := pend, fn, tmps := ts, params := ps, assign := x, body := y, defers := (ρ d).blk }) hl
    exact Res.ok_mono (jumpO_ok (P := P) (st.step s')) fun o ho => ho.after s' (.one (stepR_endRangeFunc hrun))
  unfold endLoop
  split
  · rename_i hl; exact go hl (by simp)
  · rename_i hl; exact go hl (by simp)
  · trivial
end
end Go.Ev
namespace Go.Ev
section
variable {P : Program} {Ω : Nat → Option Obj} {C : Ctx} {ih : Ev} {ρ ρ' : Map} {h h' : AH} {w w' : World} {G : Nat} {key : FuncId × Nat × Option Nat} {b : Frame} {T : PT AV} {tmps : Array Value} {df : List Nat}

/-- The loop's block for deferred calls lies; the iterator is called. -/
theorem evLoop_ok (hC : CtxOk P C) (S : Sound P Ω C ih) {cx : FC} (st : St Ω C.G cx.key b ρ h w T tmps df) {f : AV} (hf : f.lo h.next = true) {ps : Array Tmp} {assign body : Code} {d : Nat} (hd : d < h.next)
    {M : List Item → List Frame → Machine} (k : List Item) (cs : List Frame)
    (hM : ∀ k cs, ∃ fr w₀, M k cs = lone fr cs w₀ ∧ (stepG P true { frame := fr, callers := cs, status := .running, dying := none } w₀).bare =
      (stepG.apply P true (b.atR ⟨tmps, marks ρ df⟩ (.inRangeFunc w.heap.size :: k)) cs none (do let d ← Deferred.ofValue (conc ρ f) #[.func (.yield w.heap.size) #[] #[]]; invoke d.target d.args)
        (w.alloc (.loop { state := .ready, pending := none, fn := cx.fn, tmps, params := ps, assign, body, defers := (ρ d).blk }))).bare) :
    (evLoop C ih cx f ps assign body T df d h).Ok (Out P Ω C.G cx.key b ρ h w k cs (M k cs)) := by
  have s₁ := Step.add st.sim (o := .loop { state := .ready, pending := none, fn := cx.fn, tmps, params := ps, assign, body, defers := (ρ d).blk })
    (ab := .loop .ready none cx.fn cx.n T ps assign body d) (size := 0) ⟨st.tb, blt_iff.2 hd⟩ ⟨rfl, tmps, st.tr, by simp⟩
  have st₁ := st.step s₁
  have hself := ρ.upd_self h.next ⟨w.heap.size, 0, 0, none⟩
  have hfc : conc (ρ.upd h.next ⟨w.heap.size, 0, 0, none⟩) f = conc ρ f := s₁.conc hf
  unfold evLoop
  have hop := evCallee_ok hC s₁.sim (f := f) (args := [.yield h.next]) (s₁.lo hf) (by simp only [loL, allL, AV.all]; rw [blt_iff.2 (show h.next < (h.add _).next from Nat.lt_succ_self _)]; rfl)
  rw [hfc] at hop
  have hyv : (concL (ρ.upd h.next ⟨w.heap.size, 0, 0, none⟩) [.yield h.next]).toArray = #[.func (.yield w.heap.size) #[] #[]] := by simp [concL, conc, hself]
  rw [hyv] at hop
  have W : Waits P M (fun k => b.atR ⟨tmps, marks ρ df⟩ (.inRangeFunc w.heap.size :: k)) (do let d ← Deferred.ofValue (conc ρ f) #[.func (.yield w.heap.size) #[] #[]]; invoke d.target d.args)
      (w.alloc (.loop { state := .ready, pending := none, fn := cx.fn, tmps, params := ps, assign, body, defers := (ρ d).blk })) := ⟨hM, fun _ => rfl⟩
  split
  · rename_i g args h' e
    rw [e] at hop
    obtain ⟨ρ', w', h1, h2, h3⟩ := hop
    refine Res.ok_bind (S.call g args h' ρ' w' (b.atR ⟨tmps, marks ρ df⟩ (.inRangeFunc w.heap.size :: k) :: cs) h2.sim (h2.base (s₁.base st.base)) h3) fun r hr => ?_
    obtain ⟨ρ₂, w₂, h4, h5, fr, h7, _, h8⟩ := hr
    have s₃ := (s₁.trans h2).trans h4
    have st₃ := st.step s₃
    have el : (ρ₂ h.next).blk = w.heap.size := by
      rw [(h2.trans h4).low h.next (Nat.lt_succ_self _), hself]
    refine Res.ok_mono (endLoop_ok (P := P) st₃ (l := h.next)) fun o ho => ho.after s₃ ?_
    refine .head (W.enter h1) (h7.trans (.one ?_))
    rw [el, marks_congr s₃ st.df]
    exact step_leave_returned h8
  · trivial

theorem resolve_loop {ev : Operand → Value} {f : Operand} {v : Value} {l : Nat} (he : ev f = v) (hc : ∀ c, ev (.const c) = c) :
    resolve ev { callee := .value f, args := #[.const (.func (.yield l) #[] #[])], argTypes := #[] } 0 = Deferred.ofValue v #[.func (.yield l) #[] #[]] := by
  simp [resolve, he, hc]

theorem cRangeFunc_ok (hC : CtxOk P C) (S : Sound P Ω C ih) {cx : FC} (st : St Ω C.G cx.key b ρ h w T tmps df) (f : Operand) (ps : Array Tmp) (assign body : Code) (k : List Item) (cs : List Frame) :
    Stmt P Ω C cx.key b ρ h w tmps df k cs (.rangeFunc f ps assign body) (cRangeFunc f ps assign body C ih cx T df h) := by
  unfold cRangeFunc
  rw [oe_eq]
  split
  · rename_i fv hv
    obtain ⟨h1, h2⟩ := evOpd_ok st.sim st.tr st.tb hv
    obtain ⟨cfn, cn, cround, clive⟩ := cx
    have hfn : b.fn = cfn := st.fn
    have heval : ∀ fr : Frame, fr.tmps = tmps → fr.eval f = conc ρ fv := by
      intro fr hfr
      rw [← h1, ← hfr]
      cases f <;> rfl
    unfold evRangeFunc
    cases hr : cround with
    | none =>
      have hro : b.roundOf = none := by have := st.ro; rw [hr] at this; exact this
      have s₁ := Step.add st.sim (o := .deferred (some [])) (ab := .deferred) (size := 0) trivial ⟨rfl, by simp⟩
      have hself := ρ.upd_self h.next ⟨w.heap.size, 0, 0, none⟩
      have st₁ := st.step s₁
      have st₂ : St Ω C.G (FC.key ⟨cfn, cn, none, clive⟩) b (ρ.upd h.next ⟨w.heap.size, 0, 0, none⟩) (h.add .deferred) (w.alloc (.deferred (some []))) T tmps (h.next :: df) :=
        { sim := st₁.sim, base := st₁.base, tr := st₁.tr, tb := st₁.tb, df := fun d hd => by
            rcases List.mem_cons.1 hd with rfl | hd
            · exact Nat.lt_succ_self _
            · exact st₁.df d hd
          rd := fun l e => by cases e
          fn := st₁.fn, kind := st₁.kind, ro := hro }
      refine Res.ok_mono (evLoop_ok hC S st₂ (f := fv) (s₁.lo h2) (d := h.next) (Nat.lt_succ_self _) (M := fun k cs => lone (b.atR ⟨tmps, marks ρ df⟩ (.code (.rangeFunc f ps assign body) :: k)) cs w) k cs fun k cs => ⟨_, _, rfl, ?_⟩) fun o ho => ho.after s₁ (.refl P _)
      have hrun := run_enterLoop_outer (P := P) (w := w) cfn tmps ps assign body
      have hm : marks (ρ.upd h.next ⟨w.heap.size, 0, 0, none⟩) (h.next :: df) = { target := .collected w.heap.size, args := #[] } :: marks ρ df := by
        rw [← marks_congr s₁ st.df]
        simp [marks, hself]
      rw [hm, s₁.conc h2, hself]
      simp only [stepG, stepG.exec, Frame.atR, hfn, hro, Sem.runT_eq, hrun, GStep.bare_after]
      rw [resolve_loop (heval _ rfl) fun _ => rfl]
      simp only [World.size_alloc]
      rfl
    | some l =>
      have hro : b.roundOf = some (ρ l).blk := by have := st.ro; rw [hr] at this; exact this
      show Stmt P Ω C _ b ρ h w tmps df k cs _ (match h.t.get l with
        | some (.loop _ _ _ _ _ _ _ _ d) => evLoop C ih ⟨cfn, cn, some l, clive⟩ fv ps assign body T df d h
        | _ => .fail)
      split
      · rename_i st' pend fn n T' ps' x y d hl
        obtain ⟨ts, h3, h4, h5, h6, h7, h8⟩ := st.sim.loop hl
        subst hr
        refine evLoop_ok hC S st h2 h5 (M := fun k cs => lone (b.atR ⟨tmps, marks ρ df⟩ (.code (.rangeFunc f ps assign body) :: k)) cs w) k cs fun k cs => ⟨_, _, rfl, ?_⟩
        have hrun := run_enterLoop_inner (P := P) (w := w) h8 cfn tmps ps assign body
        simp only [stepG, stepG.exec, Frame.atR, hfn, hro, Sem.runT_eq, hrun, GStep.bare_after]
        rw [resolve_loop (heval _ rfl) fun _ => rfl]
        rfl
      · trivial
  · trivial
end
end Go.Ev
namespace Go.Ev

/-! ### Alike -/
mutual
theorem AV.beq_sound : ∀ (a b : AV), a.beq b = true → a = b
  | .bool a, b, h => by cases b <;> simp only [AV.beq, Bool.false_eq_true] at h; rename_i b; cases a <;> cases b <;> first | rfl | cases h
  | .int k n, b, h => by
    cases b <;> simp only [AV.beq, Bool.false_eq_true] at h
    rw [cnd_eq] at h
    split at h
    · rename_i hk; rw [eqI_eq] at h; rw [kindEq_iff.1 hk, eq_of_beq h]
    · cases h
  | .str s, b, h => by cases b <;> simp only [AV.beq, Bool.false_eq_true] at h; rw [eqS_eq] at h; rw [eq_of_beq h]
  | .ptr x i, b, h => by cases b <;> simp only [AV.beq, Bool.false_eq_true, Bool.and_eq_true, Nat.beq_eq] at h; simp_all
  | .nilp, b, h => by cases b <;> simp_all [AV.beq]
  | .slice .., b, h => by cases b <;> simp only [AV.beq, Bool.false_eq_true, Bool.and_eq_true, Nat.beq_eq] at h; simp_all
  | .sliceU .., b, h => by cases b <;> simp only [AV.beq, Bool.false_eq_true, Bool.and_eq_true, Nat.beq_eq] at h; simp_all
  | .nils, b, h => by cases b <;> simp_all [AV.beq]
  | .map a, b, h => by cases b <;> simp only [AV.beq, Bool.false_eq_true, Nat.beq_eq] at h; simp_all
  | .nilm, b, h => by cases b <;> simp_all [AV.beq]
  | .fn f l, b, h => by
    cases b <;> simp only [AV.beq, Bool.false_eq_true, Bool.and_eq_true, Nat.beq_eq] at h
    rw [h.1, beqL_sound l _ h.2]
  | .yield a, b, h => by cases b <;> simp only [AV.beq, Bool.false_eq_true, Nat.beq_eq] at h; simp_all
  | .nilf, b, h => by cases b <;> simp_all [AV.beq]
  | .iface t v, b, h => by
    cases b <;> simp only [AV.beq, Bool.false_eq_true, Bool.and_eq_true, Nat.beq_eq] at h
    rw [h.1, AV.beq_sound v _ h.2]
  | .nili, b, h => by cases b <;> simp_all [AV.beq]
  | .agg l, b, h => by cases b <;> simp only [AV.beq, Bool.false_eq_true] at h; rw [beqL_sound l _ h]
  | .tup l, b, h => by cases b <;> simp only [AV.beq, Bool.false_eq_true] at h; rw [beqL_sound l _ h]
theorem beqL_sound : ∀ (l m : List AV), beqL l m = true → l = m
  | [], m, h => by cases m <;> simp_all [beqL]
  | v :: l, m, h => by
    cases m <;> simp only [beqL, Bool.false_eq_true, Bool.and_eq_true] at h
    rw [AV.beq_sound v _ h.1, beqL_sound l _ h.2]
end
theorem beqE_sound : ∀ (l m : List (AV × AV × Nat)), beqE l m = true → l = m
  | [], m, h => by cases m <;> simp_all [beqE]
  | (a, b, c) :: l, m, h => by
    cases m with
    | nil => simp [beqE] at h
    | cons e m =>
      obtain ⟨a', b', c'⟩ := e
      simp only [beqE, Bool.and_eq_true, Nat.beq_eq] at h
      obtain ⟨⟨⟨h1, h2⟩, h3⟩, h4⟩ := h
      rw [AV.beq_sound _ _ h1, AV.beq_sound _ _ h2, h3, beqE_sound l _ h4]
theorem beqN_sound : ∀ (l m : List Nat), beqN l m = true → l = m
  | [], m, h => by cases m <;> simp_all [beqN]
  | v :: l, m, h => by
    cases m <;> simp only [beqN, Bool.false_eq_true, Bool.and_eq_true, Nat.beq_eq] at h
    rw [h.1, beqN_sound l _ h.2]
theorem beqO_sound {a b : Option Nat} (h : beqO a b = true) : a = b := by
  cases a <;> cases b <;> simp_all [beqO, Nat.beq_eq]
theorem ABlock.beq_sound {a b : ABlock} (h : a.beq b = true) : a = b := by
  cases a <;> cases b <;> simp only [ABlock.beq, Bool.false_eq_true, Bool.and_eq_true, Nat.beq_eq] at h
  · rw [beqL_sound _ _ h.1, h.2]
  · rw [beqE_sound _ _ h.1, h.2]
  · obtain ⟨⟨⟨h1, h2⟩, h3⟩, h4⟩ := h
    rw [beqO_sound h1, h2, beqN_sound _ _ h3, h4]
  · rw [eqS_eq] at h; rw [eq_of_beq h.1, h.2]
  · rfl
theorem beqD_sound : ∀ (l m : List (Nat × Option ABlock)), beqD l m = true → l = m
  | [], m, h => by cases m <;> simp_all [beqD]
  | (a, none) :: l, m, h => by
    cases m with
    | nil => simp [beqD] at h
    | cons e m =>
      obtain ⟨b, x⟩ := e
      cases x <;> simp only [beqD, Bool.false_eq_true, Bool.and_eq_true, Nat.beq_eq] at h
      rw [h.1, beqD_sound l _ h.2]
  | (a, some x) :: l, m, h => by
    cases m with
    | nil => simp [beqD] at h
    | cons e m =>
      obtain ⟨b, y⟩ := e
      cases y <;> simp only [beqD, Bool.false_eq_true, Bool.and_eq_true, Nat.beq_eq] at h
      rw [h.1.1, ABlock.beq_sound h.1.2, beqD_sound l _ h.2]
theorem X.beq_sound {a b : X} (h : a.beq b = true) : a = b := by
  cases a <;> cases b <;> simp_all [X.beq, Nat.beq_eq]
theorem CO.beq_sound {a b : CO} (h : a.beq b = true) : a = b := by
  obtain ⟨_, _, _, _, _⟩ := a
  obtain ⟨_, _, _, _, _⟩ := b
  simp only [CO.beq, Bool.and_eq_true, Nat.beq_eq] at h
  obtain ⟨⟨⟨⟨h1, h2⟩, h3⟩, h4⟩, h5⟩ := h
  rw [X.beq_sound h1, beqL_sound _ _ h2, h3, beqN_sound _ _ h4, beqD_sound _ _ h5]

/-! ### Other names -/
section
variable {r : Nat → Option Nat} {ρ ρ' : Map} {p : Nat → Bool}
mutual
theorem renV_ok (hr : ∀ i j, r i = some j → ρ' j = ρ i ∧ p j = true) : ∀ {v v' : AV}, renV r v = some v' → conc ρ' v' = conc ρ v ∧ v'.all p = true
  | .ptr b i, v', h => by
    simp only [renV] at h
    cases e : r b with
    | none => rw [e] at h; cases h
    | some c => rw [e] at h; cases h; exact ⟨by simp only [conc, (hr b c e).1], (hr b c e).2⟩
  | .slice b i n c, v', h => by
    simp only [renV] at h
    cases e : r b with
    | none => rw [e] at h; cases h
    | some c => rw [e] at h; cases h; exact ⟨by simp only [conc, (hr b c e).1], (hr b c e).2⟩
  | .sliceU b i n c, v', h => by
    simp only [renV] at h
    cases e : r b with
    | none => rw [e] at h; cases h
    | some c => rw [e] at h; cases h; exact ⟨by simp only [conc, (hr b c e).1], (hr b c e).2⟩
  | .map b, v', h => by
    simp only [renV] at h
    cases e : r b with
    | none => rw [e] at h; cases h
    | some c => rw [e] at h; cases h; exact ⟨by simp only [conc, (hr b c e).1], (hr b c e).2⟩
  | .yield b, v', h => by
    simp only [renV] at h
    cases e : r b with
    | none => rw [e] at h; cases h
    | some c => rw [e] at h; cases h; exact ⟨by simp only [conc, (hr b c e).1], (hr b c e).2⟩
  | .fn f l, v', h => by
    simp only [renV] at h
    cases e : renL r l with
    | none => rw [e] at h; cases h
    | some m => rw [e] at h; cases h; obtain ⟨h1, h2⟩ := renL_ok hr e; exact ⟨by simp only [conc, h1], h2⟩
  | .iface t v, v', h => by
    simp only [renV] at h
    cases e : renV r v with
    | none => rw [e] at h; cases h
    | some m => rw [e] at h; cases h; obtain ⟨h1, h2⟩ := renV_ok hr e; exact ⟨by simp only [conc, h1], h2⟩
  | .agg l, v', h => by
    simp only [renV] at h
    cases e : renL r l with
    | none => rw [e] at h; cases h
    | some m => rw [e] at h; cases h; obtain ⟨h1, h2⟩ := renL_ok hr e; exact ⟨by simp only [conc, h1], h2⟩
  | .tup l, v', h => by
    simp only [renV] at h
    cases e : renL r l with
    | none => rw [e] at h; cases h
    | some m => rw [e] at h; cases h; obtain ⟨h1, h2⟩ := renL_ok hr e; exact ⟨by simp only [conc, h1], h2⟩
  | .bool _, v', h => by simp only [renV] at h; cases h; exact ⟨rfl, rfl⟩
  | .int _ _, v', h => by simp only [renV] at h; cases h; exact ⟨rfl, rfl⟩
  | .str _, v', h => by simp only [renV] at h; cases h; exact ⟨rfl, rfl⟩
  | .nilp, v', h => by simp only [renV] at h; cases h; exact ⟨rfl, rfl⟩
  | .nils, v', h => by simp only [renV] at h; cases h; exact ⟨rfl, rfl⟩
  | .nilm, v', h => by simp only [renV] at h; cases h; exact ⟨rfl, rfl⟩
  | .nilf, v', h => by simp only [renV] at h; cases h; exact ⟨rfl, rfl⟩
  | .nili, v', h => by simp only [renV] at h; cases h; exact ⟨rfl, rfl⟩
theorem renL_ok (hr : ∀ i j, r i = some j → ρ' j = ρ i ∧ p j = true) : ∀ {l l' : List AV}, renL r l = some l' → concL ρ' l' = concL ρ l ∧ allL p l' = true
  | [], l', h => by simp only [renL] at h; cases h; exact ⟨rfl, rfl⟩
  | v :: l, l', h => by
    simp only [renL] at h
    cases e : renV r v with
    | none => rw [e] at h; cases h
    | some v' =>
      rw [e] at h
      cases e2 : renL r l with
      | none => rw [e2] at h; cases h
      | some m =>
        rw [e2] at h; cases h
        obtain ⟨h1, h2⟩ := renV_ok hr e
        obtain ⟨h3, h4⟩ := renL_ok hr e2
        exact ⟨by simp only [concL, h1, h3], by simp only [allL, h2, h4, Bool.and_self]⟩
end
theorem renE_ok (hr : ∀ i j, r i = some j → ρ' j = ρ i ∧ p j = true) : ∀ {l l' : List (AV × AV × Nat)}, renE r l = some l' → concE ρ' l' = concE ρ l ∧ allE p l'
  | [], l', h => by simp only [renE] at h; cases h; exact ⟨rfl, fun _ h => by simp at h⟩
  | (k, v, n) :: l, l', h => by
    simp only [renE] at h
    cases e : renV r k with
    | none => rw [e] at h; cases h
    | some k' =>
      cases e1 : renV r v with
      | none => rw [e, e1] at h; cases h
      | some v' =>
        rw [e, e1] at h
        cases e2 : renE r l with
        | none => rw [e2] at h; cases h
        | some m =>
          rw [e2] at h; cases h
          obtain ⟨h1, h2⟩ := renV_ok hr e
          obtain ⟨h3, h4⟩ := renV_ok hr e1
          obtain ⟨h5, h6⟩ := renE_ok hr e2
          refine ⟨?_, fun x hx => ?_⟩
          · change { key := conc ρ' k', val := conc ρ' v', born := n } :: concE ρ' m = { key := conc ρ k, val := conc ρ v, born := n } :: concE ρ l
            rw [h1, h3, h5]
          · rcases List.mem_cons.1 hx with rfl | hx
            · exact ⟨h2, h4⟩
            · exact h6 x hx
theorem renB_ok (hr : ∀ i j, r i = some j → ρ' j = ρ i ∧ p j = true) {x x' : ABlock} (h : renB r x = some x') : x'.All p ∧ ∀ L w, blockRel ρ L w x → blockRel ρ' L w x' := by
  cases x with
  | cells c fz =>
    simp only [renB] at h
    cases e : renL r c with
    | none => rw [e] at h; cases h
    | some m =>
      rw [e] at h; cases h
      obtain ⟨h1, h2⟩ := renL_ok hr e
      refine ⟨h2, fun L w ⟨cs, t, fr, g1, g2, g3, g4, g5⟩ => ⟨cs, t, fr, g1, g2, ?_, fun i v hv => ?_, g5⟩⟩
      · have := congrArg List.length h1
        rw [concL_length, concL_length] at this
        omega
      · have h3 : (concL ρ' m)[i]? = some (conc ρ' v) := by rw [concL_get, hv]; rfl
        rw [h1, concL_get] at h3
        cases hc : c[i]? with
        | none => rw [hc] at h3; cases h3
        | some u =>
          rw [hc] at h3
          rw [g4 i u hc]
          exact h3
  | map es ck =>
    simp only [renB] at h
    cases e : renE r es with
    | none => rw [e] at h; cases h
    | some m =>
      rw [e] at h; cases h
      obtain ⟨h1, h2⟩ := renE_ok hr e
      exact ⟨h2, fun L w ⟨g1, g2⟩ => ⟨g1, by rw [h1]; exact g2⟩⟩
  | mapIter m s l n =>
    cases m with
    | none => simp only [renB] at h; cases h; exact ⟨fun b e => (by cases e), fun L w g => g⟩
    | some b =>
      simp only [renB] at h
      cases e : r b with
      | none => rw [e] at h; cases h
      | some c =>
        rw [e] at h; cases h
        obtain ⟨h1, h2⟩ := hr b c e
        exact ⟨fun b' e' => (by cases e'; exact h2), fun L w ⟨g1, g2⟩ => ⟨g1, by simpa [h1] using g2⟩⟩
  | strIter s q => simp only [renB] at h; cases h; exact ⟨trivial, fun L w g => g⟩
  | loop => simp [renB] at h
  | deferred => simp only [renB] at h; cases h; exact ⟨trivial, fun L w g => g⟩
end
end Go.Ev
namespace Go.Ev

theorem renL_len {r : Nat → Option Nat} : ∀ {l m : List AV}, renL r l = some m → m.length = l.length
  | [], m, h => by cases h; rfl
  | v :: l, m, h => by
    unfold renL at h
    split at h
    · split at h
      · cases h
        rename_i h2
        simp [renL_len h2]
      · cases h
    · cases h
theorem renB_stillR {r : Nat → Option Nat} {x y : ABlock} (h : renB r x = some y) : y.Still → x.Still := by
  intro q
  cases x with
  | cells c fz =>
    have h : (match renL r c with
      | some c => some (ABlock.cells c fz)
      | none => none) = some y := h
    cases h2 : renL r c with
    | none => rw [h2] at h; cases h
    | some c' =>
      rw [h2] at h
      cases h
      have q : c'.length < fz / 65536 ∧ fz % 65536 = 0 := q
      exact ⟨by rw [← renL_len h2]; exact q.1, q.2⟩
  | map es ck =>
    have h : (match renE r es with
      | some es => some (ABlock.map es ck)
      | none => none) = some y := h
    cases h2 : renE r es with
    | none => rw [h2] at h; cases h
    | some es' => rw [h2] at h; cases h; exact q.elim
  | mapIter m a b c =>
    cases m with
    | none => cases h; exact q.elim
    | some m =>
      have h : (match r m with
        | some m => some (ABlock.mapIter (some m) a b c)
        | none => none) = some y := h
      cases h2 : r m with
      | none => rw [h2] at h; cases h
      | some m' => rw [h2] at h; cases h; exact q.elim
  | strIter s p => cases h; exact q.elim
  | deferred => cases h; exact q.elim
  | loop => cases h
theorem renB_still {r : Nat → Option Nat} {x y : ABlock} (h : renB r x = some y) : x.Still → y.Still := by
  intro q
  cases x with
  | cells c fz =>
    have h : (match renL r c with
      | some c => some (ABlock.cells c fz)
      | none => none) = some y := h
    cases h2 : renL r c with
    | none => rw [h2] at h; cases h
    | some c' =>
      rw [h2] at h
      cases h
      have q : c.length < fz / 65536 ∧ fz % 65536 = 0 := q
      exact ⟨by rw [renL_len h2]; exact q.1, q.2⟩
  | _ => exact q.elim
theorem insN_mem {b c : Nat} : ∀ {l : List Nat}, c ∈ insN b l ↔ c = b ∨ c ∈ l
  | [] => by simp [insN]
  | d :: l => by
    simp only [insN, cnd_eq]
    split
    · rename_i e
      have := Nat.eq_of_beq_eq_true e
      subst this
      simp
    · split
      · simp
      · rw [List.mem_cons, insN_mem, List.mem_cons]
        constructor
        · rintro (h | h | h) <;> simp [h]
        · rintro (h | h | h) <;> simp [h]
theorem sortN_mem {c : Nat} : ∀ {l : List Nat}, c ∈ sortN l ↔ c ∈ l
  | [] => Iff.rfl
  | b :: l => by rw [sortN, insN_mem, sortN_mem, List.mem_cons]
theorem memN_iff {b : Nat} : ∀ {l : List Nat}, memN b l = true ↔ b ∈ l := by
  intro l
  induction l with
  | nil => simp [memN]
  | cons c l ih =>
    change cnd (Nat.beq b c) true (memN b l) = true ↔ _
    rw [cnd_eq, beq_nat]
    by_cases e : b = c
    · simp [e]
    · simp [e, ih]
theorem cut_spec {b : Nat} : ∀ {l : List Nat}, (∀ c ∈ (cut b l).1, c < b ∧ c ∈ l) ∧ (∀ c ∈ (cut b l).2, b ≤ c ∧ c ∈ l) ∧ (nodup l = true → (cut b l).2.Nodup)
  | [] => ⟨fun _ h => by simp [cut] at h, fun _ h => by simp [cut] at h, fun _ => List.nodup_nil⟩
  | c :: l => by
    obtain ⟨h1, h2, h3⟩ := cut_spec (b := b) (l := l)
    simp only [cut, cnd_eq]
    split
    · rename_i hc
      have hc := blt_iff.1 hc
      refine ⟨fun d hd => ?_, fun d hd => ⟨(h2 d hd).1, List.mem_cons_of_mem _ (h2 d hd).2⟩, fun hn => ?_⟩
      · rcases List.mem_cons.1 hd with rfl | hd
        · exact ⟨hc, List.mem_cons_self⟩
        · exact ⟨(h1 d hd).1, List.mem_cons_of_mem _ (h1 d hd).2⟩
      · simp only [nodup, Bool.and_eq_true] at hn
        exact h3 hn.2
    · rename_i hc
      have hc : ¬ c < b := fun q => hc (blt_iff.2 q)
      refine ⟨fun d hd => ⟨(h1 d hd).1, List.mem_cons_of_mem _ (h1 d hd).2⟩, fun d hd => ?_, fun hn => ?_⟩
      · rcases List.mem_cons.1 hd with rfl | hd
        · exact ⟨by omega, List.mem_cons_self⟩
        · exact ⟨(h2 d hd).1, List.mem_cons_of_mem _ (h2 d hd).2⟩
      · simp only [nodup, Bool.and_eq_true, Bool.not_eq_true'] at hn
        refine List.nodup_cons.2 ⟨fun hm => ?_, h3 hn.2⟩
        have := memN_iff.2 (h2 c hm).2
        rw [hn.1] at this
        cases this
theorem pos_spec {b base : Nat} : ∀ {l : List Nat} {i j : Nat}, pos b l i = some j → i ≤ j ∧ l[j - i]? = some b
  | [], _, _, h => by cases h
  | c :: l, i, j, h => by
    simp only [pos, cnd_eq] at h
    split at h
    · rename_i e
      cases h
      rw [Nat.sub_self, Nat.eq_of_beq_eq_true e]
      exact ⟨Nat.le_refl _, rfl⟩
    · obtain ⟨h1, h2⟩ := pos_spec (base := base) h
      have h1 : i + 1 ≤ j := h1
      refine ⟨by omega, ?_⟩
      have : j - i = (j - (i + 1)) + 1 := by omega
      rw [this]
      exact h2
theorem renOld_spec {r : Nat → Option Nat} {t : PT ABlock} : ∀ {l : List Nat} {d : List (Nat × Option ABlock)}, renOld r t l = some d →
    d.map (·.1) = l ∧ ∀ b x', (b, some x') ∈ d → b ∈ l ∧ ∃ x, t.get b = some x ∧ renB r x = some x'
  | [], d, h => by cases h; exact ⟨rfl, fun _ _ h => by simp at h⟩
  | b :: l, d, h => by
    simp only [renOld] at h
    split at h
    · rename_i x hx
      split at h
      · rename_i x' hx'
        split at h
        · rename_i d' hd'
          cases h
          obtain ⟨h1, h2⟩ := renOld_spec hd'
          refine ⟨by simp [h1], fun c y hm => ?_⟩
          rcases List.mem_cons.1 hm with e | hm
          · cases e; exact ⟨List.mem_cons_self, x, hx, hx'⟩
          · exact ⟨List.mem_cons_of_mem _ (h2 c y hm).1, (h2 c y hm).2⟩
        · cases h
      · cases h
    · split at h
      · rename_i d' hd'
        cases h
        obtain ⟨h1, h2⟩ := renOld_spec hd'
        refine ⟨by simp [h1], fun c y hm => ?_⟩
        rcases List.mem_cons.1 hm with e | hm
        · cases e
        · exact ⟨List.mem_cons_of_mem _ (h2 c y hm).1, (h2 c y hm).2⟩
      · cases h
theorem renNew_spec {r : Nat → Option Nat} {t : PT ABlock} : ∀ {l : List Nat} {i : Nat} {d : List (Nat × Option ABlock)}, renNew r t l i = some d →
    ∀ b y, (b, y) ∈ d → ∃ j c x x', b = i + j ∧ l[j]? = some c ∧ t.get c = some x ∧ renB r x = some x' ∧ y = some x'
  | [], _, d, h => by cases h; intro _ _ h; simp at h
  | b :: l, i, d, h => by
    simp only [renNew] at h
    split at h
    · rename_i x hx
      split at h
      · rename_i x' hx'
        split at h
        · rename_i d' hd'
          cases h
          intro c y hm
          rcases List.mem_cons.1 hm with e | hm
          · cases e; exact ⟨0, b, x, x', rfl, rfl, hx, hx', rfl⟩
          · obtain ⟨j, c', x, x', h1, h2⟩ := renNew_spec hd' c y hm
            exact ⟨j + 1, c', x, x', by rw [h1]; show i + 1 + j = _; omega, h2⟩
        · cases h
      · cases h
    · cases h
theorem putAll_spec : ∀ {d : List (Nat × Option ABlock)} {t : PT ABlock} {b : Nat},
    ((b, (putAll d t).get b) ∈ d) ∨ (b ∉ d.map (·.1) ∧ (putAll d t).get b = t.get b)
  | [], t, b => .inr ⟨by simp, rfl⟩
  | (c, x) :: d, t, b => by
    simp only [putAll, PT.force_eq]
    rcases putAll_spec (d := d) (t := PT.put x t c) (b := b) with h | ⟨h1, h2⟩
    · exact .inl (List.mem_cons_of_mem _ h)
    · rw [PT.get_put] at h2
      by_cases e : b = c
      · subst e
        rw [if_pos rfl] at h2
        exact .inl (by rw [h2]; exact List.mem_cons_self)
      · rw [if_neg e] at h2
        exact .inr ⟨by simp [e]; simpa using h1, h2⟩
theorem delRange_get {lo : Nat} {t : PT ABlock} : ∀ {n b : Nat}, (delRange lo t n).get b = if lo ≤ b ∧ b < lo + n then none else t.get b
  | 0, b => by simp [delRange]; intro h1 h2; omega
  | n + 1, b => by
    change (PT.put none (delRange lo t n) (lo + n)).get b = _
    rw [PT.get_put, delRange_get]
    by_cases e : b = lo + n
    · subst e; simp
    · rw [if_neg e]
      by_cases h : lo ≤ b ∧ b < lo + n
      · rw [if_pos h, if_pos ⟨h.1, by omega⟩]
      · rw [if_neg h, if_neg (by omega)]

section
variable {P : Program} {G : Nat} {ρ ρ' : Map} {h h' : AH} {w w' : World}
/-- The canonical form stands for what it was made of. -/
theorem canon_ok (s0 : Sim G ρ h w) (s : Step G ρ h w ρ' h' w') {x : X} {vs : List AV} {c : CO} (e : canon h.mark h.next x vs h' = some c) :
    ∃ ρ'' r, Step G ρ h w ρ'' ⟨putAll c.ds (delRange h.mark h.t (h.next - h.mark)), c.next, h.mark, c.log⟩ w' ∧ c.x = x ∧ renL r vs = some c.vs ∧
      ∀ i j, r i = some j → ρ'' j = ρ' i ∧ Nat.blt j c.next = true := by
  unfold canon at e
  rw [forceL_eq, forceL_eq, cnd_eq] at e
  generalize hlog : sortN h'.log = log at e
  generalize reach h'.t h.mark 100000 (idsL vs (log.foldr (fun b l => idsB (h'.t.get b) l) [])) [] = order at e
  split at e
  case isFalse => cases e
  rename_i hchk
  simp only [Bool.and_eq_true, List.all_eq_true] at hchk
  obtain ⟨⟨hnd, hord⟩, hlg⟩ := hchk
  obtain ⟨hcut1, hcut2, hcut3⟩ := cut_spec (b := h.next) (l := order)
  have hcut3 := hcut3 hnd
  generalize hmid : (cut h.next order).1 = mid at *
  generalize hnew : (cut h.next order).2 = new at *
  split at e
  case h_2 => cases e
  rename_i vs' dold dmid dnew evs eold emid enew
  rw [forceL_eq, forceN_eq, len_eq] at e
  cases e
  simp only
  obtain ⟨ko, so⟩ := renOld_spec eold
  obtain ⟨km, sm⟩ := renOld_spec emid
  have sn := renNew_spec enew
  let ρ'' : Map := fun i => if h.next ≤ i ∧ i < h.next + new.length then ρ' (new.getD (i - h.next) 0) else ρ i
  have hρlow : ∀ i, i < h.next → ρ'' i = ρ' i := fun i hi => by
    show (if _ then _ else _) = _
    rw [if_neg (by omega), s.low i hi]
  have hρnew : ∀ (j : Nat) b, new[j]? = some b → ρ'' (h.next + j) = ρ' b := fun j b hj => by
    show (if _ then _ else _) = _
    have hlt : j < new.length := (List.getElem?_eq_some_iff.1 hj).1
    rw [if_pos (by omega), Nat.add_sub_cancel_left, List.getD_eq_getElem?_getD, hj]
    rfl
  have hr : ∀ i j, renId h.next new i = some j → ρ'' j = ρ' i ∧ Nat.blt j (h.next + new.length) = true := by
    intro i j hij
    unfold renId at hij
    rw [cnd_eq] at hij
    split at hij
    · rename_i hi
      cases hij
      have hi := blt_iff.1 hi
      exact ⟨hρlow i hi, blt_iff.2 (by omega)⟩
    · obtain ⟨h1, h2⟩ := pos_spec (base := 0) hij
      have hlt := (List.getElem?_eq_some_iff.1 h2).1
      have e1 : j = h.next + (j - h.next) := by omega
      refine ⟨?_, blt_iff.2 (by omega)⟩
      rw [e1]
      exact hρnew _ _ h2
  have hmarkle := s0.mark
  -- where a block comes from
  have src : ∀ b y, (putAll (dold ++ (dmid ++ dnew)) (delRange h.mark h.t (h.next - h.mark))).get b = some y →
      ∃ b' y', h'.t.get b' = some y' ∧ ρ'' b = ρ' b' ∧ ((y'.Still → y.Still) ∧ (blockRel ρ' (ρ' b') w' y' → blockRel ρ'' (ρ'' b) w' y)) ∧ y.Lo (h.next + new.length) ∧ b < h.next + new.length ∧
        ((b < h.next ∧ b' = b) ∨ ∃ i, b = h.next + i ∧ new[i]? = some b' ∧ h.next ≤ b') := by
    intro b y hy
    rcases putAll_spec (d := dold ++ (dmid ++ dnew)) (t := delRange h.mark h.t (h.next - h.mark)) (b := b) with hm | ⟨hm, hg⟩
    · rw [hy] at hm
      rcases List.mem_append.1 hm with hm | hm
      · obtain ⟨h1, y', h2, h3⟩ := so b y hm
        obtain ⟨h4, h5⟩ := renB_ok hr h3
        have hb := blt_iff.1 (hlg b h1)
        have hb : b < h.next := by omega
        exact ⟨b, y', h2, hρlow b hb, ⟨renB_still h3, fun q => by rw [hρlow b hb]; exact h5 _ _ q⟩, h4, by omega, .inl ⟨hb, rfl⟩⟩
      · rcases List.mem_append.1 hm with hm | hm
        · obtain ⟨h1, y', h2, h3⟩ := sm b y hm
          obtain ⟨h4, h5⟩ := renB_ok hr h3
          have hb : b < h.next := (hcut1 b h1).1
          exact ⟨b, y', h2, hρlow b hb, ⟨renB_still h3, fun q => by rw [hρlow b hb]; exact h5 _ _ q⟩, h4, by omega, .inl ⟨hb, rfl⟩⟩
        · obtain ⟨j, b', y', y'', h1, h2, h3, h4, h5⟩ := sn b (some y) hm
          cases h5
          obtain ⟨h6, h7⟩ := renB_ok hr h4
          subst h1
          have hlt := (List.getElem?_eq_some_iff.1 h2).1
          exact ⟨b', y', h3, hρnew j b' h2, ⟨renB_still h4, fun q => by rw [hρnew j b' h2]; exact h7 _ _ q⟩, h6, by omega, .inr ⟨j, rfl, h2, (hcut2 b' (List.mem_of_getElem? h2)).1⟩⟩
    · rw [hy] at hg
      rw [delRange_get] at hg
      split at hg
      · cases hg
      · rename_i hnr
        obtain ⟨h1, h2, h3⟩ := s0.blk b y hg.symm
        have hb : b < h.mark := by omega
        have hnl : b ∉ h'.log := fun q => hm (by
          rw [List.map_append, List.mem_append, ko]
          exact .inl (by rw [← hlog]; exact sortN_mem.2 q))
        have hk := s.keep b hb hnl
        rw [← hg] at hk
        exact ⟨b, y, hk, hρlow b h1, ⟨id, fun q => by
          rw [hρlow b h1]
          exact q.congr hρlow h2⟩, h2.mono (blt_mono (by omega)), by omega, .inl ⟨h1, rfl⟩⟩
  refine ⟨ρ'', renId h.next new, ⟨fun i hi => ?_, Nat.le_add_right _ _, ⟨fun b y hy => ?_, fun b d y z hy hz hbd => ?_, fun g hg => ?_, Nat.le_trans s0.le (Nat.le_add_right _ _), by show h.mark ≤ h.next + new.length; omega, fun b hb => ?_⟩, s.os, s.tape, s.output, s.size, s.frame, fun b y hy => ?_, rfl, fun b hb => ?_, fun b hb => ?_, fun b hb hn => ?_⟩, trivial, evs, hr⟩
  · show (if _ then _ else _) = _
    exact if_neg hi
  · obtain ⟨b', y', h1, h2, h3, h4, h5, _⟩ := src b y hy
    exact ⟨h5, h4, h3.2 (s.sim.blk b' y' h1).2.2⟩
  · obtain ⟨b', y', h1, h2, k1, _, _, h3⟩ := src b y hy
    obtain ⟨d', z', g1, g2, k2, _, _, g3⟩ := src d z hz
    rw [h2, g2] at hbd
    rcases s.sim.inj b' d' y' z' h1 g1 hbd with e | e
    rotate_left
    · exact .inr ⟨k1.1 e.1, k2.1 e.2⟩
    left
    rcases h3 with ⟨h3, rfl⟩ | ⟨i, rfl, h3, h4⟩ <;> rcases g3 with ⟨g3, rfl⟩ | ⟨j, rfl, g3, g4⟩
    · exact e
    · omega
    · omega
    · subst e
      have := (List.getElem?_inj (List.getElem?_eq_some_iff.1 h3).1 hcut3).1 (h3.trans g3.symm)
      omega
  · have := s0.le
    rw [hρlow g (by omega), s.low g (by omega)]
    exact s0.glob g hg
  · rcases hb with hb | ⟨y, hy⟩
    · have := s0.le
      rw [hρlow b (by omega)]; exact s.sim.spot b (.inl hb)
    · obtain ⟨b', y', h1, h2, _⟩ := src b y hy
      rw [h2]; exact s.sim.spot b' (.inr ⟨y', h1⟩)
  · obtain ⟨b', y', h1, h2, k1, _⟩ := src b y hy
    rw [h2]
    exact (s.image b' y' h1).imp (fun ⟨c, x, q1, q2, q3⟩ => ⟨c, x, q1, fun q => k1.1 (q2 q), q3⟩) id
  · rw [← hlog]; exact sortN_mem.2 (s.log b hb)
  · rw [← hlog] at hb; exact s.logLt b (sortN_mem.1 hb)
  · simp only at hb hn ⊢
    rcases putAll_spec (d := dold ++ (dmid ++ dnew)) (t := delRange h.mark h.t (h.next - h.mark)) (b := b) with hm | ⟨_, hg⟩
    · exfalso
      rcases List.mem_append.1 hm with hm | hm
      · exact hn (by rw [← ko]; exact List.mem_map.2 ⟨_, hm, rfl⟩)
      · rcases List.mem_append.1 hm with hm | hm
        · have : b ∈ mid := by rw [← km]; exact List.mem_map.2 ⟨_, hm, rfl⟩
          have := ble_iff.1 (hord b (hcut1 b (by rw [← km]; exact List.mem_map.2 ⟨_, hm, rfl⟩)).2)
          omega
        · obtain ⟨j, _, _, _, h1, _⟩ := sn b _ hm
          omega
    · rw [hg, delRange_get, if_neg (by omega)]
end
end Go.Ev
namespace Go.Ev

theorem addCO_mem {c d : CO} : ∀ {l : List CO}, (d = c ∨ d ∈ l) → d ∈ addCO c l
  | [], h => by simpa [addCO] using h
  | e :: l, h => by
    simp only [addCO, cnd_eq]
    split
    · rename_i hb
      have := CO.beq_sound hb
      subst this
      rcases h with rfl | h
      · exact List.mem_cons_self
      · exact h
    · rcases h with h | h
      · exact List.mem_cons_of_mem _ (addCO_mem (.inl h))
      · rcases List.mem_cons.1 h with rfl | h
        · exact List.mem_cons_self
        · exact List.mem_cons_of_mem _ (addCO_mem (.inr h))
theorem cosOf_spec {α : Type} {f : α → Option CO} : ∀ {l : List α} {acc res : List CO}, cosOf f l acc = some res → (∀ c ∈ acc, c ∈ res) ∧ ∀ a ∈ l, ∃ c, f a = some c ∧ c ∈ res
  | [], acc, res, h => by cases h; exact ⟨fun _ h => h, fun _ h => by simp at h⟩
  | a :: l, acc, res, h => by
    simp only [cosOf] at h
    split at h
    · rename_i c hc
      obtain ⟨h1, h2⟩ := cosOf_spec h
      refine ⟨fun d hd => h1 d (addCO_mem (.inr hd)), fun b hb => ?_⟩
      rcases List.mem_cons.1 hb with rfl | hb
      · exact ⟨c, hc, h1 c (addCO_mem (.inl rfl))⟩
      · exact h2 b hb
    · cases h
theorem backsO_spec {h : AH} : ∀ {l : List CO} {os : List O}, backsO h l = some os → ∀ c ∈ l, ∃ o, c.backO h = some o ∧ o ∈ os
  | [], os, e => fun _ h => by simp at h
  | c :: l, os, e => by
    simp only [backsO] at e
    split at e
    · rename_i o ho
      split at e
      · rename_i os' hos
        cases e
        intro d hd
        rcases List.mem_cons.1 hd with rfl | hd
        · exact ⟨o, ho, List.mem_cons_self⟩
        · obtain ⟨o', h1, h2⟩ := backsO_spec hos d hd
          exact ⟨o', h1, List.mem_cons_of_mem _ h2⟩
      · cases e
    · cases e
theorem oneOrMany_ok {α : Type} {l : List α} {Q : α → Prop} {a : α} (ha : a ∈ l) (hq : Q a) : (oneOrMany l).Ok Q := by
  unfold oneOrMany
  split
  · rename_i b
    rw [List.mem_singleton] at ha
    subst ha
    exact hq
  · exact ⟨a, ha, hq⟩

theorem renL_cons {r : Nat → Option Nat} {v : AV} {l m : List AV} (h : renL r (v :: l) = some m) : ∃ v' l', m = v' :: l' ∧ renV r v = some v' ∧ renL r l = some l' := by
  simp only [renL] at h
  split at h
  · rename_i v' hv
    split at h
    · rename_i l' hl; cases h; exact ⟨v', l', rfl, hv, hl⟩
    · cases h
  · cases h
theorem renL_ints {r : Nat → Option Nat} : ∀ {l : List Nat} {m : List AV}, renL r (l.map fun i => AV.int .i64 (Int.ofNat i)) = some m → m = l.map fun i => AV.int .i64 (Int.ofNat i)
  | [], m, h => by simp only [List.map_nil, renL] at h; cases h; rfl
  | i :: l, m, h => by
    rw [List.map_cons] at h
    obtain ⟨v', l', rfl, h1, h2⟩ := renL_cons h
    simp only [renV] at h1
    cases h1
    rw [renL_ints h2]; rfl
theorem readDf_spec {r : Nat → Option Nat} : ∀ {df : List Nat} {vs m : List AV}, renL r ((df.map fun d => AV.map d) ++ (.nilp :: vs)) = some m →
    ∃ df' vs', readDf m = (df', vs') ∧ renL r vs = some vs' ∧ df'.length = df.length ∧ ∀ (i : Nat) d d', df[i]? = some d → df'[i]? = some d' → r d = some d'
  | [], vs, m, h => by
    obtain ⟨v', l', rfl, h1, h2⟩ := renL_cons h
    simp only [renV] at h1
    cases h1
    exact ⟨[], l', rfl, h2, rfl, fun i d d' hd => by simp at hd⟩
  | d :: df, vs, m, h => by
    rw [List.map_cons, List.cons_append] at h
    obtain ⟨v', l', rfl, h1, h2⟩ := renL_cons h
    simp only [renV] at h1
    split at h1
    · rename_i d' hd'
      cases h1
      obtain ⟨df', vs', h3, h4, h5, h6⟩ := readDf_spec h2
      refine ⟨d' :: df', vs', by simp [readDf, h3], h4, by simp [h5], fun i x x' hx hx' => ?_⟩
      cases i with
      | zero => cases hx; cases hx'; exact hd'
      | succ i => exact h6 i x x' hx hx'
    · cases h1
theorem slots_spec {live : Nat} {T : PT AV} : ∀ {n : Nat}, ∀ e ∈ slots live T n, e.1 < n ∧ T.get e.1 = some e.2
  | 0, e, h => by simp [slots] at h
  | n + 1, e, h => by
    simp only [slots, cnd_eq] at h
    have ih : e ∈ slots live T n → e.1 < n + 1 ∧ T.get e.1 = some e.2 := fun h => by obtain ⟨h1, h2⟩ := slots_spec e h; exact ⟨by omega, h2⟩
    split at h
    · split at h
      · rename_i v hv
        rcases List.mem_cons.1 h with rfl | h
        · exact ⟨Nat.lt_succ_self _, hv⟩
        · exact ih h
      · exact ih h
    · exact ih h

section
variable {P : Program} {G : Nat} {ρ ρ' ρ'' : Map} {h h' : AH} {w w' : World} {key : FuncId × Nat × Option Nat} {b : Frame} {T : PT AV} {tmps : Array Value} {df : List Nat}
theorem readT_ok {r : Nat → Option Nat} {m n : Nat} (hr : ∀ i j, r i = some j → ρ'' j = ρ' i ∧ Nat.blt j m = true) : ∀ {l : List (Nat × AV)} {vs : List AV} {T T' : PT AV},
    renL r (values l) = some vs → (∀ e ∈ l, tmps[e.1]? = some (conc ρ' e.2)) → readT ((numbers l).map fun i => AV.int .i64 (Int.ofNat i)) vs T = some T' → TR ρ'' n T tmps → TB m T → TR ρ'' n T' tmps ∧ TB m T'
  | [], vs, T, T', h1, _, h3, h4, h5 => by
    simp only [values, renL] at h1
    cases h1
    simp only [numbers, List.map_nil, readT] at h3
    cases h3
    exact ⟨h4, h5⟩
  | (i, v) :: l, vs, T, T', h1, h2, h3, h4, h5 => by
    obtain ⟨v', vs', rfl, g1, g2⟩ := renL_cons h1
    simp only [numbers, List.map_cons, readT, PT.force_eq] at h3
    obtain ⟨g3, g4⟩ := renV_ok hr g1
    refine readT_ok hr g2 (fun e he => h2 e (List.mem_cons_of_mem _ he)) h3 ⟨h4.1, fun j u hu => ?_⟩ fun j u hu => ?_
    · rw [PT.get_put] at hu
      split at hu
      · rename_i e; subst e; cases hu
        rw [g3]; exact h2 _ List.mem_cons_self
      · exact h4.2 j u hu
    · rw [PT.get_put] at hu
      split at hu
      · cases hu; exact g4
      · exact h5 j u hu

theorem canonO_ok {Ω : Nat → Option Obj} {k : List Item} {ccs : List Frame} {m : Machine} (st : St Ω G key b ρ h w T tmps df) {live : Nat} {o : O} (ho : Out P Ω G key b ρ h w k ccs m o) {c : CO} (hc : canonO live key.2.1 h o = some c) {o' : O}
    (hb : c.backO h = some o') : Out P Ω G key b ρ h w k ccs m o' := by
  obtain ⟨ρ', w', ts, s, st', hr⟩ := ho
  unfold canonO at hc
  rw [forceL_eq] at hc
  obtain ⟨ρ'', r, s', hx, hv, hren⟩ := canon_ok st.sim s hc
  obtain ⟨is, rest, hvs, h1, h2⟩ := renL_cons hv
  obtain ⟨df', vs', h3, h4, h5, h6⟩ := readDf_spec h2
  have h1 : is = .tup ((numbers (slots live o.T key.2.1)).map fun i => AV.int .i64 (Int.ofNat i)) := by
    simp only [renV] at h1
    split at h1
    · rename_i m' hm
      cases h1
      rw [renL_ints hm]
    · cases h1
  subst h1
  unfold CO.backO at hb
  rw [hvs] at hb
  simp only [h3] at hb
  split at hb
  case h_2 => cases hb
  rename_i T' hT'
  rw [PT.force_eq] at hb
  cases hb
  obtain ⟨g1, g2⟩ := readT_ok (n := key.2.1) (tmps := ts) hren h4 (fun e he => st'.tr.2 _ _ (slots_spec e he).2) hT' ⟨st'.tr.1, fun i v hv => by rw [PT.get_leaf] at hv; cases hv⟩ (fun i v hv => by rw [PT.get_leaf] at hv; cases hv)
  have hm : marks ρ'' df' = marks ρ' o.df := by
    refine List.ext_getElem? fun i => ?_
    unfold marks
    rw [List.getElem?_map, List.getElem?_map]
    cases e1 : df'[i]? with
    | none => rw [List.getElem?_eq_none_iff] at e1; rw [List.getElem?_eq_none (by omega)]; rfl
    | some d' =>
      have hlt := (List.getElem?_eq_some_iff.1 e1).1
      have e2 : o.df[i]? = some (o.df[i]'(by omega)) := List.getElem?_eq_getElem (by omega)
      rw [e2]
      simp only [Option.map_some, (hren _ _ (h6 i _ d' e2 e1)).1]
  have stb := st.step s'
  refine ⟨ρ'', w', ts, s', { sim := s'.sim, base := stb.base, tr := g1, tb := g2, df := fun d hd => ?_, rd := stb.rd, fn := st.fn, kind := st.kind, ro := stb.ro }, ?_⟩
  · obtain ⟨i, hi⟩ := List.getElem?_of_mem hd
    have hlt : i < df'.length := (List.getElem?_eq_some_iff.1 hi).1
    have e2 : o.df[i]? = some (o.df[i]'(by omega)) := List.getElem?_eq_getElem (by omega)
    exact blt_iff.1 (hren _ _ (h6 i _ d e2 hi)).2
  · simp only [hx, hm]
    exact hr

theorem join_ok {Ω : Nat → Option Obj} {k : List Item} {ccs : List Frame} {m : Machine} (st : St Ω G key b ρ h w T tmps df) {live : Nat} {r : Res O} (hr : r.Ok (Out P Ω G key b ρ h w k ccs m)) : (join live key.2.1 h r).Ok (Out P Ω G key b ρ h w k ccs m) := by
  cases r with
  | fail => trivial
  | one o => exact hr
  | many l =>
    change (joinL live key.2.1 h l).Ok _
    unfold joinL
    split
    · rename_i cs hcs
      split
      · rename_i os hos
        obtain ⟨o, ho, hq⟩ := hr
        obtain ⟨c, hc, hm⟩ := (cosOf_spec hcs).2 o ho
        obtain ⟨o', hb, hm'⟩ := backsO_spec hos c hm
        exact oneOrMany_ok hm' (canonO_ok st hq hc hb)
      · exact hr
    · exact hr

end
end Go.Ev
