/- The evaluator: stored calls. Definitions. -/
import Derived.Test.YtggkgmmhblamfaaGreatDoorTEvA
import Derived.Test.YtggkgmmhblamfaaGreatDoorTEvF
import Derived.Lib.ItoaNum
import Derived.Sort.Grow
import Derived.Deep.Draws
import Derived.Lib.LaidTab
set_option linter.all false
namespace Go.Ev

/-- A call, what it reads, what it comes to: all in canonical names (the blocks that the arguments reach, from 'G' on). -/
structure Memo where
  args : List AV
  blocks : List (Nat × Option ABlock)
  res : CO

/-- The names back: from canonical ones to the caller's. -/
noncomputable def backId (G n top : Nat) (order : List Nat) (nxt : Nat) (b : Nat) : Option Nat :=
  cnd (Nat.blt b G) (some b) (cnd (Nat.blt b (Nat.add G n)) (nth order (Nat.sub b G)) (cnd (Nat.blt b top) (some (Nat.add nxt (Nat.sub b (Nat.add G n)))) none))
noncomputable def backD (r : Nat → Option Nat) : List (Nat × Option ABlock) → Option (List (Nat × Option ABlock))
  | [] => some []
  | e :: l => match r e.1 with
    | some b => (match e.2 with
      | some x => (match renB r x with
        | some x => (match backD r l with
          | some d => some ((b, some x) :: d)
          | none => none)
        | none => none)
      | none => (match backD r l with
        | some d => some ((b, none) :: d)
        | none => none))
    | none => none
noncomputable def backN (r : Nat → Option Nat) : List Nat → Option (List Nat)
  | [] => some []
  | b :: l => match r b with
    | some b => (match backN r l with
      | some d => some (b :: d)
      | none => none)
    | none => none
noncomputable def keysD : List (Nat × Option ABlock) → List Nat
  | [] => []
  | e :: l => e.1 :: keysD l
/-- The blocks of an entry, as a call finds them. -/
noncomputable def Memo.n (m : Memo) : Nat := len m.blocks
noncomputable def Memo.start (G : Nat) (m : Memo) : AH := ⟨putAll m.blocks .leaf, Nat.add G m.n, Nat.add G m.n, []⟩
noncomputable def Memo.okay (G : Nat) (m : Memo) : Bool :=
  Nat.ble (Nat.add G m.n) m.res.next && nodup (keysD m.res.ds) && (keysD m.res.ds).all fun k => Nat.ble (Nat.add G m.n) k || memN k m.res.log
noncomputable def memoBack (m : Memo) (r : Nat → Option Nat) (nxt : Nat) (h : AH) : Res V :=
  match renL r m.res.vs, backD r m.res.ds, backN r m.res.log with
  | some [v], some ds, some log => PT.force (putAll ds h.t) fun t => forceN nxt fun nxt => .one ⟨v, ⟨t, nxt, h.mark, mergeLog h.mark h.log log⟩⟩
  | _, _, _ => .fail
/-- The call, by what is stored. -/
noncomputable def memoOne (G : Nat) (m : Memo) (args : List AV) (h : AH) : Res V :=
  forceL (reach h.t G 100000 (idsL args []) []) fun order =>
  cnd (nodup order && order.all (fun b => Nat.ble G b)) (match renL (renId G order) args, renNew (renId G order) h.t order G with
  | some as, some bs => cnd (beqL as m.args && beqD bs m.blocks && m.okay G)
      (memoBack m (backId G m.n m.res.next order h.next) (Nat.add h.next (Nat.sub m.res.next (Nat.add G m.n))) h) .fail
  | _, _ => .fail) .fail
noncomputable def memos (G : Nat) (ms : List Memo) (args : List AV) (h : AH) : Res V :=
  List.rec (motive := fun _ => Res V) .fail (fun m _ r => Res.rec (motive := fun _ => Res V) r (fun v => .one v) (fun l => .many l) (memoOne G m args h)) ms

/-- What the entry says. -/
noncomputable def coOf (r : Res V) (h : AH) : Option CO :=
  match r with
  | .one r => canon h.mark h.next .norm [r.v] r.h
  | _ => none
end Go.Ev
namespace Go.Ev

section
variable {r : Nat → Option Nat} {ρ ρ' : Map} {p : Nat → Bool}
theorem renB_back (hr : ∀ i j, r i = some j → ρ' j = ρ i ∧ p j = true) {x x' : ABlock} (h : renB r x = some x') : ∀ L w, blockRel ρ' L w x' → blockRel ρ L w x := by
  cases x with
  | cells c fz =>
    simp only [renB] at h
    cases e : renL r c with
    | none => rw [e] at h; cases h
    | some m =>
      rw [e] at h; cases h
      obtain ⟨h1, _⟩ := renL_ok hr e
      rintro L w ⟨cs, t, fr, g1, g2, g3, g4, g5⟩
      refine ⟨cs, t, fr, g1, g2, ?_, fun i v hv => ?_, g5⟩
      · have := congrArg List.length h1
        rw [concL_length, concL_length] at this
        omega
      · have h3 : (concL ρ c)[i]? = some (conc ρ v) := by rw [concL_get, hv]; rfl
        rw [← h1, concL_get] at h3
        cases hc : m[i]? with
        | none => rw [hc] at h3; cases h3
        | some u =>
          rw [hc] at h3
          rw [g4 i u hc]
          exact h3
  | map es ck =>
    simp only [renB] at h
    cases e : renE r es with
    | none => rw [e] at h; cases h
    | some m =>
      rw [e] at h; cases h
      obtain ⟨h1, _⟩ := renE_ok hr e
      exact fun L w ⟨g1, g2⟩ => ⟨g1, by rw [← h1]; exact g2⟩
  | mapIter m s l n =>
    cases m with
    | none => simp only [renB] at h; cases h; exact fun L w g => g
    | some b =>
      simp only [renB] at h
      cases e : r b with
      | none => rw [e] at h; cases h
      | some c =>
        rw [e] at h; cases h
        obtain ⟨h1, _⟩ := hr b c e
        exact fun L w ⟨g1, g2⟩ => ⟨g1, by simpa [h1] using g2⟩
  | strIter s q => simp only [renB] at h; cases h; exact fun L w g => g
  | loop => simp [renB] at h
  | deferred => simp only [renB] at h; cases h; exact fun L w g => g
end

theorem keysD_eq : ∀ {d : List (Nat × Option ABlock)}, keysD d = d.map (·.1)
  | [] => rfl
  | e :: d => by simp only [keysD, List.map_cons]; rw [keysD_eq]
theorem nodup_iff : ∀ {l : List Nat}, nodup l = true → l.Nodup
  | [], _ => List.nodup_nil
  | b :: l, h => by
    simp only [nodup, Bool.and_eq_true, Bool.not_eq_true'] at h
    refine List.nodup_cons.2 ⟨fun hm => ?_, nodup_iff h.2⟩
    rw [memN_iff.2 hm] at h
    cases h.1
theorem putAll_of_mem : ∀ {d : List (Nat × Option ABlock)} {t : PT ABlock} {b : Nat} {y : Option ABlock}, (d.map (·.1)).Nodup → (b, y) ∈ d → (putAll d t).get b = y := by
  intro d t b y hn hm
  rcases putAll_spec (d := d) (t := t) (b := b) with h | ⟨h, _⟩
  · have key : ∀ {d : List (Nat × Option ABlock)} {y z : Option ABlock}, (d.map (·.1)).Nodup → (b, y) ∈ d → (b, z) ∈ d → y = z := by
      intro d
      induction d with
      | nil => intro y z _ h; simp at h
      | cons e d ih =>
        intro y z hn h1 h2
        rw [List.map_cons, List.nodup_cons] at hn
        rcases List.mem_cons.1 h1 with q1 | q1 <;> rcases List.mem_cons.1 h2 with q2 | q2
        · rw [← q1] at q2; cases q2; rfl
        · subst q1; exact absurd (List.mem_map.2 ⟨_, q2, rfl⟩) hn.1
        · subst q2; exact absurd (List.mem_map.2 ⟨_, q1, rfl⟩) hn.1
        · exact ih hn.2 q1 q2
    exact key hn h hm
  · exact absurd (List.mem_map.2 ⟨_, hm, rfl⟩) h
theorem renNew_mem {r : Nat → Option Nat} {t : PT ABlock} : ∀ {l : List Nat} {i : Nat} {d : List (Nat × Option ABlock)}, renNew r t l i = some d → d.length = l.length ∧
    ∀ j c, l[j]? = some c → ∃ x x', t.get c = some x ∧ renB r x = some x' ∧ (i + j, some x') ∈ d
  | [], _, d, h => by cases h; exact ⟨rfl, fun j c hc => by simp at hc⟩
  | b :: l, i, d, h => by
    simp only [renNew] at h
    split at h
    · rename_i x hx
      split at h
      · rename_i x' hx'
        split at h
        · rename_i d' hd'
          cases h
          obtain ⟨h1, h2⟩ := renNew_mem hd'
          refine ⟨by simp [h1], fun j c hc => ?_⟩
          cases j with
          | zero => cases hc; exact ⟨x, x', hx, hx', List.mem_cons_self⟩
          | succ j =>
            obtain ⟨y, y', g1, g2, g3⟩ := h2 j c hc
            exact ⟨y, y', g1, g2, List.mem_cons_of_mem _ (by have : i + (j + 1) = i.succ + j := by omega
                                                             rw [this]; exact g3)⟩
        · cases h
      · cases h
    · cases h
theorem backD_spec {r : Nat → Option Nat} : ∀ {l d : List (Nat × Option ABlock)}, backD r l = some d →
    (∀ b' y', (b', y') ∈ d → ∃ b y, (b, y) ∈ l ∧ r b = some b' ∧ ∀ x', y' = some x' → ∃ x, y = some x ∧ renB r x = some x') ∧ ∀ b ∈ l.map (·.1), ∃ b', r b = some b' ∧ b' ∈ d.map (·.1)
  | [], d, h => by cases h; exact ⟨fun _ _ h => by simp at h, fun _ h => by simp at h⟩
  | (k, z) :: l, d, h => by
    simp only [backD] at h
    split at h
    · rename_i k' hk
      split at h
      · rename_i x
        split at h
        · rename_i x' hx'
          split at h
          · rename_i d' hd'
            cases h
            obtain ⟨h1, h2⟩ := backD_spec hd'
            refine ⟨fun b' y' hm => ?_, fun b hb => ?_⟩
            · rcases List.mem_cons.1 hm with e | hm
              · cases e; exact ⟨k, some x, List.mem_cons_self, hk, fun u hu => by cases hu; exact ⟨x, rfl, hx'⟩⟩
              · obtain ⟨b, y, g1, g2⟩ := h1 b' y' hm
                exact ⟨b, y, List.mem_cons_of_mem _ g1, g2⟩
            · rw [List.map_cons] at hb
              rcases List.mem_cons.1 hb with rfl | hb
              · exact ⟨k', hk, by simp⟩
              · obtain ⟨b', g1, g2⟩ := h2 b hb
                exact ⟨b', g1, by rw [List.map_cons]; exact List.mem_cons_of_mem _ g2⟩
          · cases h
        · cases h
      · split at h
        · rename_i d' hd'
          cases h
          obtain ⟨h1, h2⟩ := backD_spec hd'
          refine ⟨fun b' y' hm => ?_, fun b hb => ?_⟩
          · rcases List.mem_cons.1 hm with e | hm
            · cases e; exact ⟨k, none, List.mem_cons_self, hk, fun u hu => by cases hu⟩
            · obtain ⟨b, y, g1, g2⟩ := h1 b' y' hm
              exact ⟨b, y, List.mem_cons_of_mem _ g1, g2⟩
          · rw [List.map_cons] at hb
            rcases List.mem_cons.1 hb with rfl | hb
            · exact ⟨k', hk, by simp⟩
            · obtain ⟨b', g1, g2⟩ := h2 b hb
              exact ⟨b', g1, by rw [List.map_cons]; exact List.mem_cons_of_mem _ g2⟩
        · cases h
    · cases h
theorem backN_spec {r : Nat → Option Nat} : ∀ {l d : List Nat}, backN r l = some d → ∀ b', b' ∈ d ↔ ∃ b ∈ l, r b = some b'
  | [], d, h, b' => by cases h; simp
  | k :: l, d, h, b' => by
    simp only [backN] at h
    split at h
    · rename_i k' hk
      split at h
      · rename_i d' hd'
        cases h
        rw [List.mem_cons, backN_spec hd']
        constructor
        · rintro (rfl | ⟨b, h1, h2⟩)
          · exact ⟨k, List.mem_cons_self, hk⟩
          · exact ⟨b, List.mem_cons_of_mem _ h1, h2⟩
        · rintro ⟨b, h1, h2⟩
          rcases List.mem_cons.1 h1 with rfl | h1
          · rw [hk] at h2; cases h2; exact .inl rfl
          · exact .inr ⟨b, h1, h2⟩
      · cases h
    · cases h
end Go.Ev
namespace Go.Ev

theorem backId_low {G n top nxt b : Nat} {order : List Nat} (h : b < G) : backId G n top order nxt b = some b := by
  unfold backId; rw [cnd_eq, if_pos (blt_iff.2 h)]
theorem backId_mid {G n top nxt b : Nat} {order : List Nat} (h1 : G ≤ b) (h2 : b < G + n) : backId G n top order nxt b = order[b - G]? := by
  unfold backId
  rw [cnd_eq, if_neg (fun q => by have := blt_iff.1 q; omega), cnd_eq, if_pos (blt_iff.2 (show b < Nat.add G n from h2)), nth_eq]; rfl
theorem backId_new {G n top nxt b : Nat} {order : List Nat} (h1 : G + n ≤ b) : backId G n top order nxt b = if b < top then some (nxt + (b - (G + n))) else none := by
  unfold backId
  rw [cnd_eq, if_neg (fun q => by have := blt_iff.1 q; omega), cnd_eq, if_neg (fun q => by have : b < G + n := blt_iff.1 q; omega), cnd_eq]
  by_cases h : b < top
  · rw [if_pos (blt_iff.2 h), if_pos h]; rfl
  · rw [if_neg (fun q => h (blt_iff.1 q)), if_neg h]

theorem memoOne_ok {P : Program} {Ω : Nat → Option Obj} {C : Ctx} (hC : CtxOk P C) {S : Summ} (hS : SummOk P Ω C S) {m : Memo} {f : FuncId} {fuel : Nat} (hK : coOf ((ev C S fuel).call f m.args (m.start C.G)) (m.start C.G) = some m.res)
    {ρ : Map} {h : AH} {w : World} (s : Sim C.G ρ h w) (B : Base Ω ρ h w) {args : List AV} (cs : List Frame) :
    (memoOne C.G m args h).Ok (CallOut P C.G ρ h w f (concL ρ args).toArray cs) := by
  unfold memoOne
  rw [forceL_eq]
  generalize reach h.t C.G 100000 (idsL args []) [] = order
  rw [cnd_eq]
  split
  case isFalse => trivial
  rename_i hord
  simp only [Bool.and_eq_true, List.all_eq_true] at hord
  obtain ⟨hnd, hge⟩ := hord
  have hnd := nodup_iff hnd
  split
  case h_2 => trivial
  rename_i as bs has hbs
  rw [cnd_eq]
  split
  case isFalse => trivial
  rename_i hchk
  simp only [Bool.and_eq_true, Memo.okay, List.all_eq_true] at hchk
  obtain ⟨⟨he1, he2⟩, ⟨hok1, hok2⟩, hok3⟩ := hchk
  have he1 := beqL_sound _ _ he1
  have he2 := beqD_sound _ _ he2
  have hok1 : C.G + m.n ≤ m.res.next := ble_iff.1 hok1
  have hok2 := nodup_iff hok2
  rw [keysD_eq] at hok2 hok3
  obtain ⟨hlen, hmem⟩ := renNew_mem hbs
  have hn : m.n = order.length := by unfold Memo.n; rw [len_eq, ← he2, hlen]
  unfold memoBack
  split
  case h_2 => trivial
  rename_i v' ds' log' hv' hds' hlog'
  rw [PT.force_eq, forceN_eq]
  -- the canonical start
  let ρc : Map := fun i => if i < C.G then ρ i else if i < C.G + m.n then ρ (order.getD (i - C.G) 0) else ρ i
  have ρcl : ∀ i, i < C.G → ρc i = ρ i := fun i hi => if_pos hi
  have ρcm : ∀ (j : Nat) c, order[j]? = some c → ρc (C.G + j) = ρ c := fun j c hj => by
    have hlt := (List.getElem?_eq_some_iff.1 hj).1
    show (if _ then _ else _) = _
    rw [if_neg (by omega), if_pos (by omega), Nat.add_sub_cancel_left, List.getD_eq_getElem?_getD, hj]
    rfl
  have hr : ∀ i j, renId C.G order i = some j → ρc j = ρ i ∧ Nat.blt j (C.G + m.n) = true := by
    intro i j hij
    unfold renId at hij
    rw [cnd_eq] at hij
    split at hij
    · rename_i hi
      cases hij
      have hi := blt_iff.1 hi
      exact ⟨ρcl i hi, blt_iff.2 (by omega)⟩
    · obtain ⟨h1, h2⟩ := pos_spec (base := 0) hij
      have hlt := (List.getElem?_eq_some_iff.1 h2).1
      have e1 : j = C.G + (j - C.G) := by omega
      refine ⟨?_, blt_iff.2 (by omega)⟩
      rw [e1]
      exact ρcm _ _ h2
  have hcget : ∀ b y, (m.start C.G).t.get b = some y → ∃ j c x, b = C.G + j ∧ order[j]? = some c ∧ h.t.get c = some x ∧ renB (renId C.G order) x = some y := by
    intro b y hb
    change (putAll m.blocks .leaf).get b = some y at hb
    rcases putAll_spec (d := m.blocks) (t := .leaf) (b := b) with q | ⟨_, q⟩
    · rw [hb, ← he2] at q
      obtain ⟨j, c, x, x', h1, h2, h3, h4, h5⟩ := renNew_spec hbs b (some y) q
      cases h5
      exact ⟨j, c, x, h1, h2, h3, h4⟩
    · rw [hb] at q; cases q
  have hcmem : ∀ (j : Nat) c, order[j]? = some c → ∃ x y, h.t.get c = some x ∧ renB (renId C.G order) x = some y ∧ (m.start C.G).t.get (C.G + j) = some y := by
    intro j c hj
    obtain ⟨x, x', h1, h2, h3⟩ := hmem j c hj
    refine ⟨x, x', h1, h2, ?_⟩
    rw [he2] at h3
    rcases putAll_spec (d := m.blocks) (t := .leaf) (b := C.G + j) with q | ⟨q, _⟩
    · rw [← he2] at q
      obtain ⟨j', c', y, y', g1, g2, g3, g4, g5⟩ := renNew_spec hbs _ _ q
      have : j' = j := by omega
      subst this
      rw [hj] at g2; cases g2
      rw [h1] at g3; cases g3
      rw [h2] at g4; cases g4
      show (putAll m.blocks .leaf).get _ = _
      rw [← he2]; exact g5
    · exact absurd (List.mem_map.2 ⟨_, h3, rfl⟩) q
  have simc : Sim C.G ρc (m.start C.G) w := by
    refine ⟨fun b y hb => ?_, fun b d y z hb hd q => ?_, fun g hg => by rw [ρcl g hg]; exact s.glob g hg, Nat.le_add_right _ _, Nat.le_refl _, fun b hb => ?_⟩
    · obtain ⟨j, c, x, rfl, h2, h3, h4⟩ := hcget b y hb
      have hlt := (List.getElem?_eq_some_iff.1 h2).1
      obtain ⟨h5, h6⟩ := renB_ok hr h4
      refine ⟨by show C.G + j < C.G + m.n; omega, h5, ?_⟩
      rw [ρcm j c h2]
      exact h6 _ _ (s.blk c x h3).2.2
    · obtain ⟨j, c, x, rfl, h2, h3, h4⟩ := hcget b y hb
      obtain ⟨j', c', x', rfl, g2, g3, g4⟩ := hcget d z hd
      rw [ρcm j c h2, ρcm j' c' g2] at q
      rcases s.inj c c' x x' h3 g3 q with this | e
      rotate_left
      · exact .inr ⟨renB_still h4 e.1, renB_still g4 e.2⟩
      left
      subst this
      have := (List.getElem?_inj (List.getElem?_eq_some_iff.1 h2).1 hnd).1 (h2.trans g2.symm)
      omega
    · rcases hb with hb | ⟨y, hb⟩
      · rw [ρcl b hb]; exact s.spot b (.inl hb)
      · obtain ⟨j, c, x, rfl, h2, h3, h4⟩ := hcget b y hb
        rw [ρcm j c h2]; exact s.spot c (.inr ⟨x, h3⟩)
  have basec : Base Ω ρc (m.start C.G) w := fun g o hg => ⟨(B g o hg).1, fun b y hb hn => by
    obtain ⟨j, c, x, rfl, h2, h3, h4⟩ := hcget b y hb
    rw [ρcm j c h2]
    exact (B g o hg).2 c x h3 fun q => hn (renB_still h4 q)⟩
  obtain ⟨ha1, ha2⟩ := renL_ok hr has
  rw [he1] at ha1 ha2
  -- the entry's run
  unfold coOf at hK
  split at hK
  case h_2 => cases hK
  rename_i r0 hcall
  obtain ⟨ρ₁, w', s₁, _, hsteps⟩ := callOut_of_one hC hS fuel simc basec ha2 hcall cs
  obtain ⟨ρ₂, q, s₂, _, hvs, hq⟩ := canon_ok simc s₁ hK
  obtain ⟨v₂, l', hvs', hv2, hl'⟩ := renL_cons hvs
  simp only [renL] at hl'
  cases hl'
  obtain ⟨hv3, hv4⟩ := renV_ok hq hv2
  have e0 : delRange (m.start C.G).mark (m.start C.G).t ((m.start C.G).next - (m.start C.G).mark) = (m.start C.G).t := by
    show delRange (C.G + m.n) (m.start C.G).t (C.G + m.n - (C.G + m.n)) = _
    rw [Nat.sub_self]; rfl
  rw [e0] at s₂
  rw [hvs'] at hv'
  obtain ⟨v'', l'', hl1, hv5, _⟩ := renL_cons hv'
  cases hl1
  -- back
  let N : Nat := h.next + (m.res.next - (C.G + m.n))
  let ρ' : Map := fun i => if i < h.next then ρ i else if i < N then ρ₂ (C.G + m.n + (i - h.next)) else ρ i
  have ρ'l : ∀ i, i < h.next → ρ' i = ρ i := fun i hi => if_pos hi
  have oc : ∀ (j : Nat) c, order[j]? = some c → c < h.next := fun j c hj => by
    obtain ⟨x, _, h1, _, _⟩ := hcmem j c hj
    exact (s.blk c x h1).1
  have ρ₂l : ∀ i, i < C.G + m.n → ρ₂ i = ρc i := fun i hi => s₂.low i hi
  have hb : ∀ k b, backId C.G m.n m.res.next order h.next k = some b → ρ' b = ρ₂ k ∧ Nat.blt b N = true := by
    intro k b hkb
    have hG := s.le
    by_cases h1 : k < C.G
    · rw [backId_low h1] at hkb
      cases hkb
      exact ⟨by rw [ρ'l k (by omega), ρ₂l k (by omega), ρcl k h1], blt_iff.2 (by show k < h.next + _; omega)⟩
    · by_cases h2 : k < C.G + m.n
      · rw [backId_mid (by omega) h2] at hkb
        have h3 := oc _ _ hkb
        have e1 : k = C.G + (k - C.G) := by omega
        refine ⟨?_, blt_iff.2 (by show b < h.next + _; omega)⟩
        rw [ρ'l b h3, ρ₂l k h2, e1, ρcm _ _ hkb]
      · rw [backId_new (by omega)] at hkb
        split at hkb
        · rename_i h3
          cases hkb
          refine ⟨?_, blt_iff.2 (by show h.next + (k - (C.G + m.n)) < h.next + _; omega)⟩
          show (if _ then _ else if _ then _ else _) = _
          rw [if_neg (by omega), if_pos (by show h.next + (k - (C.G + m.n)) < h.next + _; omega)]
          congr 1
          omega
        · cases hkb
  obtain ⟨hd1, hd2⟩ := backD_spec hds'
  have hlogm := backN_spec hlog'
  -- each block is one that the call has touched, or hidden from it
  have hid : ∀ b x, h.t.get b = some x → b ∉ order → w'.heap[(ρ b).blk]? = w.heap[(ρ b).blk]? := fun b x hbx hno => by
    refine s₂.frame _ (s.blk b x hbx).2.2.lt fun k y hk hn z => ?_
    obtain ⟨j, c, x', rfl, h2, h3, h4⟩ := hcget k y hk
    rw [ρcm j c h2] at z
    have := (s.inj c b x' x h3 hbx z).resolve_right fun q => hn (renB_still h4 q.1)
    subst this
    exact hno (List.mem_of_getElem? h2)
  have cls : ∀ b x, (putAll ds' h.t).get b = some x → b < N ∧ x.Lo N ∧ blockRel ρ' (ρ' b) w' x ∧
      ((∃ k y, (putAll m.res.ds (m.start C.G).t).get k = some y ∧ backId C.G m.n m.res.next order h.next k = some b ∧ (y.Still → x.Still)) ∨ (h.t.get b = some x ∧ b ∉ order)) := by
    intro b x hbx
    rcases putAll_spec (d := ds') (t := h.t) (b := b) with q1 | ⟨q1, q2⟩
    · rw [hbx] at q1
      obtain ⟨k, y, g1, g2, g3⟩ := hd1 b _ q1
      obtain ⟨x0, rfl, g4⟩ := g3 x rfl
      have g5 := putAll_of_mem (t := (m.start C.G).t) hok2 g1
      obtain ⟨g6, g7⟩ := renB_ok hb g4
      obtain ⟨g8, g9⟩ := hb k b g2
      refine ⟨blt_iff.1 g9, g6, ?_, .inl ⟨k, x0, g5, g2, renB_still g4⟩⟩
      rw [g8]
      exact g7 _ _ (s₂.sim.blk k x0 g5).2.2
    · rw [hbx] at q2
      have q2 := q2.symm
      obtain ⟨h1, h2, h3⟩ := s.blk b x q2
      have hN : h.next ≤ N := Nat.le_add_right _ _
      by_cases ho : b ∈ order
      · obtain ⟨j, hj⟩ := List.getElem?_of_mem ho
        have hjlt := (List.getElem?_eq_some_iff.1 hj).1
        obtain ⟨x', y, g1, g2, g3⟩ := hcmem j b hj
        rw [q2] at g1; cases g1
        have hbk : backId C.G m.n m.res.next order h.next (C.G + j) = some b := by
          rw [backId_mid (by omega) (by omega), Nat.add_sub_cancel_left]; exact hj
        have g4 : (putAll m.res.ds (m.start C.G).t).get (C.G + j) = some y := by
          rcases putAll_spec (d := m.res.ds) (t := (m.start C.G).t) (b := C.G + j) with z | ⟨_, z⟩
          · obtain ⟨b', z1, z2⟩ := hd2 (C.G + j) (List.mem_map.2 ⟨_, z, rfl⟩)
            rw [hbk] at z1; cases z1
            exact absurd z2 q1
          · rw [z]; exact g3
        refine ⟨by omega, h2.mono (blt_mono hN), ?_, .inl ⟨_, y, g4, hbk, renB_stillR g2⟩⟩
        have g5 := (s₂.sim.blk _ y g4).2.2
        rw [ρ₂l _ (by omega), ρcm j b hj] at g5
        have g6 : blockRel ρc (ρ b) w' y := g5.congr (fun i hi => (ρ₂l i hi).symm) (renB_ok hr g2).1
        rw [ρ'l b h1]
        exact (renB_back hr g2 _ _ g6).congr ρ'l h2
      · refine ⟨by omega, h2.mono (blt_mono hN), ?_, .inr ⟨q2, ho⟩⟩
        rw [ρ'l b h1]
        exact (h3.of_block (hid b x q2 ho)).congr ρ'l h2
  have cross : ∀ k y b x, (putAll m.res.ds (m.start C.G).t).get k = some y → h.t.get b = some x → b ∉ order → (ρ₂ k).blk = (ρ b).blk → y.Still ∧ x.Still := by
    intro k y b x h1 h2 h3 h4
    rcases s₂.image k y h1 with ⟨c, z, g1, hst, g2⟩ | g1
    · obtain ⟨j, c', x', rfl, g3, g4, g5⟩ := hcget c z g1
      rw [ρcm j c' g3] at g2
      rcases s.inj c' b x' x g4 h2 (g2.trans h4) with this | e
      · subst this
        exact absurd (List.mem_of_getElem? g3) h3
      · exact ⟨hst (renB_still g5 e.1), e.2⟩
    · have := (s.blk b x h2).2.2.lt
      omega
  have hN : h.next ≤ N := Nat.le_add_right _ _
  obtain ⟨hv6, hv7⟩ := renV_ok hb hv5
  refine ⟨ρ', w', ⟨fun i hi => ?_, hN, ⟨fun b x hbx => ?_, fun b d x z hbx hdz e => ?_, fun g hg => ?_, Nat.le_trans s.le hN, Nat.le_trans s.mark hN, fun b hbs => ?_⟩, s₂.os, s₂.tape, s₂.output, s₂.size, fun B hB hout => ?_, fun b x hbx => ?_, rfl,
    fun b hbl => mergeLog_mem.2 (.inl hbl), fun b hbl => (mergeLog_mem.1 hbl).imp id (·.2), fun b hbm hbn => ?_⟩, hv7, ?_⟩
  · show (if _ then _ else if _ then _ else _) = _
    by_cases h1 : i < h.next
    · rw [if_pos h1]
    · have h2 : ¬ i < N := fun q => hi ⟨by omega, q⟩
      rw [if_neg h1, if_neg h2]
  · obtain ⟨h1, h2, h3, _⟩ := cls b x hbx
    exact ⟨h1, h2, h3⟩
  · obtain ⟨_, _, _, h1⟩ := cls b x hbx
    obtain ⟨_, _, _, g1⟩ := cls d z hdz
    rcases h1 with ⟨k, y, h1, h2, hy⟩ | ⟨h1, h2⟩ <;> rcases g1 with ⟨k', y', g1, g2, hy'⟩ | ⟨g1, g2⟩
    · rw [(hb k b h2).1, (hb k' d g2).1] at e
      rcases s₂.sim.inj k k' y y' h1 g1 e with this | e
      · subst this
        rw [h2] at g2; cases g2; exact .inl rfl
      · exact .inr ⟨hy e.1, hy' e.2⟩
    · rw [(hb k b h2).1, ρ'l d (s.blk d z g1).1] at e
      have q := cross k y d z h1 g1 g2 e
      exact .inr ⟨hy q.1, q.2⟩
    · rw [(hb k' d g2).1, ρ'l b (s.blk b x h1).1] at e
      have q := cross k' y' b x g1 h1 h2 e.symm
      exact .inr ⟨q.2, hy' q.1⟩
    · rw [ρ'l b (s.blk b x h1).1, ρ'l d (s.blk d z g1).1] at e
      exact s.inj b d x z h1 g1 e
  · rw [ρ'l g (Nat.lt_of_lt_of_le hg s.le)]
    exact s.glob g hg
  · rcases hbs with hbs | ⟨x, hbx⟩
    · rw [ρ'l b (Nat.lt_of_lt_of_le hbs s.le)]; exact s.spot b (.inl hbs)
    · obtain ⟨_, _, _, h1⟩ := cls b x hbx
      rcases h1 with ⟨k, y, h1, h2, _⟩ | ⟨h1, h2⟩
      · rw [(hb k b h2).1]; exact s₂.sim.spot k (.inr ⟨y, h1⟩)
      · rw [ρ'l b (s.blk b x h1).1]; exact s.spot b (.inr ⟨x, h1⟩)
  · refine s₂.frame B hB fun k y hk hn e => ?_
    obtain ⟨j, c, x, rfl, h2, h3, h4⟩ := hcget k y hk
    rw [ρcm j c h2] at e
    exact hout c x h3 (fun q => hn (renB_still h4 q)) e
  · obtain ⟨_, _, _, h1⟩ := cls b x hbx
    rcases h1 with ⟨k, y, h1, h2, hy⟩ | ⟨h1, h2⟩
    · rw [(hb k b h2).1]
      rcases s₂.image k y h1 with ⟨c, z, g1, hst, g2⟩ | g1
      · obtain ⟨j, c', x', rfl, g3, g4, g5⟩ := hcget c z g1
        rw [ρcm j c' g3] at g2
        exact .inl ⟨c', x', g4, fun q => hy (hst (renB_still g5 q)), g2⟩
      · exact .inr g1
    · exact .inl ⟨b, x, h1, id, by rw [ρ'l b (s.blk b x h1).1]⟩
  · have hbm : b < h.mark := hbm
    have hmk := s.mark
    show (putAll ds' h.t).get b = h.t.get b
    rcases putAll_spec (d := ds') (t := h.t) (b := b) with z | ⟨_, z⟩
    · exfalso
      obtain ⟨k, y, g1, g2, _⟩ := hd1 b _ z
      have g3 := hok3 k (List.mem_map.2 ⟨_, g1, rfl⟩)
      simp only [Bool.or_eq_true] at g3
      rcases g3 with g3 | g3
      · have g3 : C.G + m.n ≤ k := ble_iff.1 g3
        rw [backId_new g3] at g2
        split at g2
        · cases g2; omega
        · cases g2
      · have g3 := memN_iff.1 g3
        exact hbn (mergeLog_mem.2 (.inr ⟨(hlogm b).2 ⟨k, g3, g2⟩, hbm⟩))
    · exact z
  · obtain ⟨fr, g1, g2, g3⟩ := hsteps
    refine ⟨fr, by rw [← ha1]; exact g1, g2, ?_⟩
    show fr.leaving P w' (.returned (conc ρ' _))
    rw [hv6, hv3]; exact g3

/-- The entries of a function. -/
def MemoOk (P : Program) (Ω : Nat → Option Obj) (C : Ctx) (f : FuncId) (m : Memo) : Prop :=
  ∀ (args : List AV) (h : AH) (ρ : Map) (w : World) (cs : List Frame), Sim C.G ρ h w → Base Ω ρ h w → (memoOne C.G m args h).Ok (CallOut P C.G ρ h w f (concL ρ args).toArray cs)
theorem memoOk_of {P : Program} {Ω : Nat → Option Obj} {C : Ctx} (hC : CtxOk P C) {S : Summ} (hS : SummOk P Ω C S) {m : Memo} {f : FuncId} (fuel : Nat) (hK : coOf ((ev C S fuel).call f m.args (m.start C.G)) (m.start C.G) = some m.res) : MemoOk P Ω C f m :=
  fun _ _ _ _ cs s B => memoOne_ok hC hS hK s B cs
theorem memos_ok {P : Program} {Ω : Nat → Option Obj} {C : Ctx} {f : FuncId} : ∀ {ms : List Memo}, (∀ m ∈ ms, MemoOk P Ω C f m) → ∀ (args : List AV) (h : AH) (ρ : Map) (w : World) (cs : List Frame), Sim C.G ρ h w → Base Ω ρ h w →
    (memos C.G ms args h).Ok (CallOut P C.G ρ h w f (concL ρ args).toArray cs)
  | [], _, _, _, _, _, _, _, _ => trivial
  | m :: ms, hm, args, h, ρ, w, cs, s, B => by
    change (Res.rec (motive := fun _ => Res V) (memos C.G ms args h) (fun v => .one v) (fun l => .many l) (memoOne C.G m args h) : Res V).Ok _
    have h1 := hm m List.mem_cons_self args h ρ w cs s B
    cases e : memoOne C.G m args h with
    | fail => exact memos_ok (fun m' hm' => hm m' (List.mem_cons_of_mem _ hm')) args h ρ w cs s B
    | one v => rw [e] at h1; exact h1
    | many l => rw [e] at h1; exact h1
/-- A summary grows by a function's entries, by whatever is known of a function. -/
theorem SummOk.add {P : Program} {Ω : Nat → Option Obj} {C : Ctx} {S : Summ} (hS : SummOk P Ω C S) {f : FuncId} {k : List AV → AH → Res V}
    (hk : ∀ (args : List AV) (h : AH) (ρ : Map) (w : World) (cs : List Frame), Sim C.G ρ h w → Base Ω ρ h w → loL h.next args = true → (k args h).Ok (CallOut P C.G ρ h w f (concL ρ args).toArray cs)) : SummOk P Ω C (PT.put (some k) S f) := by
  intro g s hs args h ρ w cs sim B ha
  rw [PT.get_put] at hs
  split at hs
  · rename_i e
    subst e
    cases hs
    exact hk args h ρ w cs sim B ha
  · exact hS g s hs args h ρ w cs sim B ha
theorem SummOk.put {P : Program} {Ω : Nat → Option Obj} {C : Ctx} {S : Summ} (hS : SummOk P Ω C S) {f : FuncId} {ms : List Memo} (hm : ∀ m ∈ ms, MemoOk P Ω C f m) : SummOk P Ω C (PT.put (some (memos C.G ms)) S f) :=
  hS.add fun args h ρ w cs sim B _ => memos_ok hm args h ρ w cs sim B
theorem SummOk.leaf (P : Program) (Ω : Nat → Option Obj) (C : Ctx) : SummOk P Ω C .leaf := fun f s hs => by rw [PT.get_leaf] at hs; cases hs
end Go.Ev
namespace Go.Ev
noncomputable def chkMemo (C : Ctx) (S : Summ) (fuel : Nat) (f : FuncId) (m : Memo) : Bool :=
  Option.rec (motive := fun _ => Bool) false (fun c => c.beq m.res) (coOf ((ev C S fuel).call f m.args (m.start C.G)) (m.start C.G))
theorem memoOk_of_chk {P : Program} {Ω : Nat → Option Obj} {C : Ctx} (hC : CtxOk P C) {S : Summ} (hS : SummOk P Ω C S) {m : Memo} {f : FuncId} (fuel : Nat) (hK : chkMemo C S fuel f m = true) : MemoOk P Ω C f m := by
  refine memoOk_of hC hS fuel ?_
  unfold chkMemo at hK
  cases e : coOf ((ev C S fuel).call f m.args (m.start C.G)) (m.start C.G) with
  | none => rw [e] at hK; cases hK
  | some c =>
    rw [e] at hK
    have hK : c.beq m.res = true := hK
    rw [CO.beq_sound hK]
end Go.Ev
namespace Go.Ev
open Go.RowKit
/-- A world in which nothing that lay has changed. -/
theorem Step.of_below {G : Nat} {ρ : Map} {h : AH} {w w' : World} (s : Sim G ρ h w) (b : Below w.heap.size w w') : Step G ρ h w ρ h w' := by
  refine ⟨fun _ _ => rfl, Nat.le_refl _, ⟨fun c x hc => ?_, s.inj, s.glob, s.le, s.mark, s.spot⟩, b.os, b.tape, b.output, b.size, fun B hB _ => b.block B hB, fun c x hc => .inl ⟨c, x, hc, id, rfl⟩, rfl, fun _ h => h, fun _ h => .inl h, fun _ _ _ => rfl⟩
  obtain ⟨h1, h2, h3⟩ := s.blk c x hc
  exact ⟨h1, h2, h3.of_block (b.block _ h3.lt)⟩
theorem below_grow (w : World) (k : Nat) (os : Array Obj) : Below w.heap.size w (Sort.grow (w.drewN k) os) :=
  ⟨rfl, rfl, rfl, by simp [Sort.grow, World.drewN], fun i hi => by
    show (w.heap ++ os)[i]? = _
    rw [Array.getElem?_append_left hi]⟩
theorem below_drewN (w : World) (k : Nat) : Below w.heap.size w (w.drewN k) := ⟨rfl, rfl, rfl, Nat.le_refl _, fun _ _ => rfl⟩

/-! ### Digits -/
noncomputable def decK (fuel : Nat) : Nat → List UInt8 :=
  Nat.rec (motive := fun _ => Nat → List UInt8) (fun _ => []) (fun _ ih u => cnd (Nat.blt u 10) [UInt8.ofNat (48 + u)] (ih (Nat.div u 10) ++ [UInt8.ofNat (48 + Nat.mod u 10)])) fuel
theorem decK_eq : ∀ (fuel u : Nat), u < 10 ^ fuel → decK fuel u = Lib.decDigits u ∨ fuel = 0
  | 0, _, _ => .inr rfl
  | n + 1, u, h => by
    left
    show cnd (Nat.blt u 10) [UInt8.ofNat (48 + u)] (decK n (u / 10) ++ [UInt8.ofNat (48 + u % 10)]) = _
    rw [cnd_eq, Lib.decDigits]
    by_cases hu : u < 10
    · rw [if_pos (blt_iff.2 hu), dif_pos hu]
    · rw [if_neg (fun q => hu (blt_iff.1 q)), dif_neg hu]
      have h' : u / 10 < 10 ^ n := by
        rw [Nat.pow_succ] at h
        omega
      rcases decK_eq n (u / 10) h' with q | q
      · rw [q]
      · subst q
        simp at h
        omega
noncomputable def itoaK (n : Int) : List UInt8 := Int.rec (motive := fun _ => List UInt8) (fun m => decK 20 m) (fun m => 45 :: decK 20 (Nat.succ m)) n
theorem itoaK_eq {n : Int} (h0 : -9223372036854775808 ≤ n) (h1 : n ≤ 9223372036854775807) : itoaK n = Lib.itoa n := by
  unfold Lib.itoa
  cases n with
  | ofNat m =>
    have h1 : (m : Int) ≤ 9223372036854775807 := h1
    have : ¬ (Int.ofNat m < 0) := by have : Int.ofNat m = (m : Int) := rfl; omega
    rw [if_neg this]
    rcases decK_eq 20 m (by omega) with q | q
    · exact q
    · cases q
  | negSucc m =>
    have h0 : -9223372036854775808 ≤ Int.negSucc m := h0
    have : Int.negSucc m < 0 := Int.negSucc_lt_zero m
    rw [if_pos this]
    rcases decK_eq 20 (m + 1) (by omega) with q | q
    · show 45 :: decK 20 (m + 1) = 45 :: Lib.decDigits (Int.negSucc m).natAbs
      rw [q]; rfl
    · cases q
noncomputable def inI64 (n : Int) : Bool := leI (-9223372036854775808) n && leI n 9223372036854775807
noncomputable def sItoa (args : List AV) (h : AH) : Res V :=
  match args with
  | [.int .i64 n] => cnd (inI64 n) (forceL (itoaK n) fun l => .one ⟨.str l, h⟩) .fail
  | _ => .fail
theorem inI64_iff {n : Int} : inI64 n = true ↔ -9223372036854775808 ≤ n ∧ n ≤ 9223372036854775807 := by
  unfold inI64
  rw [leI_eq, leI_eq, Bool.and_eq_true, decide_eq_true_eq, decide_eq_true_eq]
theorem sItoa_ok {P : Program} {G : Nat} {f : FuncId}
    (hc : ∀ (n : Int) (w : World), -9223372036854775808 ≤ n → n ≤ 9223372036854775807 → Lib.TabIs P w "internal/strconv.uint64pow10" .u64 Lib.pow10Tab →
      Calls P f #[.int .i64 n] w fun e w' => e = .returned (.string ⟨(Lib.itoa n).toArray⟩) ∧ ∃ k os, w' = Sort.grow (w.drewN k) os)
    {args : List AV} {h : AH} {ρ : Map} {w : World} (cs : List Frame) (s : Sim G ρ h w) (ht : Lib.TabIs P w "internal/strconv.uint64pow10" .u64 Lib.pow10Tab) :
    (sItoa args h).Ok (CallOut P G ρ h w f (concL ρ args).toArray cs) := by
  unfold sItoa
  split
  · rename_i n
    rw [cnd_eq, forceL_eq]
    split
    · rename_i hn
      obtain ⟨h0, h1⟩ := inI64_iff.1 hn
      refine out_of_calls (hc n w h0 h1 ht) (fun e w' ⟨he, k, os, hw⟩ => ?_) cs
      subst hw
      refine ⟨ρ, Step.of_below s (below_grow w k os), rfl, ?_⟩
      rw [he]
      show _ = Ending.returned (.string ⟨(itoaK n).toArray⟩)
      rw [itoaK_eq h0 h1]
    · trivial
  · trivial
end Go.Ev
