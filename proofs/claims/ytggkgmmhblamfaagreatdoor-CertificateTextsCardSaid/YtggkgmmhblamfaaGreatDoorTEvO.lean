/- The evaluator, part O: conversions, and every operation. -/
import Derived.Test.YtggkgmmhblamfaaGreatDoorTEvL
set_option linter.all false
namespace Go.Ev
section
variable {P : Program} {G : Nat} {ρ : Map} {h : AH} {w : World} {t : TypeId} {ty : PT ATy}

theorem toBytes_ok : ∀ {l : List AV} {r : List UInt8}, toBytes l = some r → ∀ (s : ByteArray),
    (forIn (m := Sem) (concL ρ l) s (fun c s => (match c with | .int .u8 n => pure (ForInStep.yield (s.push (UInt8.ofNat n.toNat))) | _ => do (stuck "bytesToString: byte expected" : Sem PUnit); pure (ForInStep.yield s)))).run P w = .ok ⟨(s.data.toList ++ r).toArray⟩ w
  | [], r, h, s => by cases h; simp [concL]
  | v :: l, r, h, s => by
    unfold toBytes at h
    split at h
    · rename_i n
      split at h
      · rename_i r' hr
        cases h
        have ih := toBytes_ok hr (s.push (UInt8.ofNat n))
        simp only [Ev.concL, conc, List.forIn_cons, Sem.run_bind, Sem.run_pure, Result.andThen_ok]
        have e : (Int.ofNat n).toNat = n := rfl
        rw [e, ih]
        congr 2
        simp [ByteArray.push]
      · cases h
    · cases h

theorem run_bytesToString {l : List AV} {r : List UInt8} {a : Addr} {n c : Nat} (hl : (loadCells a n).run P w = .ok (concL ρ l).toArray w) (hr : toBytes l = some r) :
    (Conv.bytesToString (.slice (some a) n c)).run P w = .ok (.string ⟨r.toArray⟩) w := by
  have h1 := toBytes_ok (P := P) (ρ := ρ) (w := w) hr ByteArray.empty
  have e : ((ByteArray.empty.data.toList ++ r).toArray : Array UInt8) = r.toArray := rfl
  rw [e] at h1
  simp only [Conv.bytesToString, Sem.run_bind, hl, Result.andThen_ok]
  rw [← Array.forIn_toList, show (concL ρ l).toArray.toList = concL ρ l from rfl]
  exact (congrArg (fun r => Result.andThen r fun a w' => Sem.run P (pure (Value.string a)) w') h1).trans rfl

theorem ad_uptr {d : TypeDesc} (h : adOf (some d) = .uptr) : d = .unsafePointer := by cases d <;> simp [adOf] at h; rfl
theorem TyIs.uptr {a : ATy} (ht : TyIs P t a) (w : World) (h : a.d = .uptr) : (underlying t).run P w = .ok .unsafePointer w := by
  obtain ⟨d, h1, h2⟩ := ht.run_under w; rw [h] at h2; rw [h1, ad_uptr h2]
theorem TyIs.cellsOf {a : ATy} (ht : TyIs P t a) : P.cellsOf t = a.size := by
  obtain ⟨i, hi, hs, _⟩ := ht.info
  simp [Program.cellsOf, hi, hs]
theorem liesAt_self {u : TypeId} {n : Nat} (h0 : 0 < P.cellsOf u) (hn : P.cellsOf u ≤ n) : liesAt P P.depth u (n / P.cellsOf u) 0 u 1 = true := by
  have hd : P.depth = (2 * (P.types.size + Made.depth) + 1) + 1 := rfl
  rw [hd]
  simp only [liesAt, Bool.or_eq_true]
  left
  rw [hd]
  have h1 : 1 ≤ n / P.cellsOf u := by rw [Nat.le_div_iff_mul_le h0]; omega
  have h2 : P.cellsOf u ≠ 0 := by omega
  simp [rowAt, h2, sameLayout, h1]
theorem toUnsafe_ok (s : Sim G ρ h w) {ts td u : TypeId} {au : ATy} (hs : (underlying ts).run P w = .ok (.pointer u) w) (hd : (underlying td).run P w = .ok .unsafePointer w) (hu : TyIs P u au) (h0 : 0 < au.size)
    {b o : Nat} {c : List AV} {fz : Nat} (hb : h.t.get b = some (.cells c fz)) (ho : o < c.length) : (convert ts td (.pointer (some ((ρ b).at o)))).run P w = .ok (.pointer (some ((ρ b).at o))) w := by
  obtain ⟨_, _, cs, e, fr, h1, h2, h3, h4, h5⟩ := s.blk b _ hb
  have hsh : w.shape? (ρ b).blk = some (e, cs.size) := by simp [World.shape?, h1]
  have hz := hu.run_sizeOf w
  have hne : au.size ≠ 0 := by omega
  have hlt : ¬ cs.size ≤ (ρ b).shift + o := by omega
  simp [convert, hs, hd, Conv.unsafePointer, Conv.seenAt, viewAt, cellsIn, hsh, hz, hne, Loc.at, hlt]
theorem ofUnsafe_ok (s : Sim G ρ h w) {ts td u : TypeId} {au : ATy} (hs : (underlying ts).run P w = .ok .unsafePointer w) (hd : (underlying td).run P w = .ok (.pointer u) w) (hu : TyIs P u au) (h0 : 0 < au.size)
    {b : Nat} {c : List AV} {fz : Nat} (hb : h.t.get b = some (.cells c fz)) (hfz : fz % 65536 = u + 1) (hn : au.size ≤ c.length) : (convert ts td (.pointer (some ((ρ b).at 0)))).run P w = .ok (.pointer (some ((ρ b).at 0))) w := by
  obtain ⟨_, _, cs, e, fr, h1, h2, h3, h4, h5⟩ := s.blk b _ hb
  obtain ⟨rfl, hsft, _⟩ := h5.2 u hfz
  have hsh : w.shape? (ρ b).blk = some (e, cs.size) := by simp [World.shape?, h1]
  have hz := hu.run_sizeOf w
  have hne : au.size ≠ 0 := by omega
  have hl := liesAt_self (P := P) (u := e) (n := cs.size) (by rw [hu.cellsOf]; exact h0) (by rw [hu.cellsOf]; omega)
  simp [convert, hs, hd, Conv.unsafePointer, Conv.seenAt, viewAt, hsh, hz, hne, Loc.at, hsft, variablesAt, hl]

variable (hT : ∀ t a, ty.get t = some a → TyIs P t a)
include hT
theorem evConvert_ok (s : Sim G ρ h w) {a d : ATy} {ts td : TypeId} (hs : TyIs P ts a) (hd : TyIs P td d) {x : AV} : VOk P G ρ h w (convert ts td (conc ρ x)) (evConvert ty a d x h) := by
  obtain ⟨us, hus, _⟩ := hs.run_under w
  unfold evConvert
  split
  · rename_i k j n hk
    refine VOk.pure s fun v hv => ?_
    rw [mkI_eq, wrapF_eq] at hv
    cases hv
    exact ⟨by simp [convert, hus, hd.int w hk, conc, Conv.intToInt], rfl⟩
  · rename_i str hk
    split
    · rename_i hs'
      refine ⟨ρ, w, ?_, .refl s, rfl⟩
      simp [convert, hs.str w hs', hd.str w hk, conc]
    · trivial
  · rename_i hk
    split
    · rename_i e he
      split
      · rename_i ae hae
        split
        · rename_i hu8
          refine ⟨ρ, w, ?_, .refl s, rfl⟩
          simp [convert, hs.slice w he, hd.str w hk, conc, (hT _ _ hae).int w hu8, Conv.bytesToString]
          rfl
        · trivial
      · trivial
    · trivial
  · rename_i b off n c hk
    split
    · rename_i e he
      split
      · rename_i ae hae
        split
        · rename_i l hu8 hl
          split
          · rename_i r hr
            refine ⟨ρ, w, ?_, .refl s, rfl⟩
            have h1 := (firstCells_ok (P := P) s hl (elems_len (fun _ e => by cases e) hl)).1
            have h2 : (loadCells ((ρ b).at off) n).run P w = .ok (concL ρ l).toArray w := by
              simpa [Builtin.firstCells, conc] using h1
            have h3 := run_bytesToString (P := P) (ρ := ρ) (c := c) h2 hr
            simp only [convert, Sem.run_bind, hs.slice w he, hd.str w hk, Result.andThen_ok, conc, (hT _ _ hae).int w hu8, h3]
          · trivial
        · trivial
      · trivial
    · trivial
  · rename_i b off n c hk
    split
    · rename_i e he
      split
      · rename_i ae hae
        split
        · rename_i l hu8 hl
          split
          · rename_i r hr
            refine ⟨ρ, w, ?_, .refl s, rfl⟩
            have h1 := (firstCells_ok (P := P) s hl (elems_len (fun _ e => by cases e) hl)).1
            have h2 : (loadCells ((ρ b).at off) n).run P w = .ok (concL ρ l).toArray w := by
              simpa [Builtin.firstCells, conc] using h1
            have h3 := run_bytesToString (P := P) (ρ := ρ) (c := ((ρ b).size - off) / c) h2 hr
            simp only [convert, Sem.run_bind, hs.slice w he, hd.str w hk, Result.andThen_ok, conc, (hT _ _ hae).int w hu8, h3]
          · trivial
        · trivial
      · trivial
    · trivial
  · rename_i hk
    split
    · rename_i e he
      refine ⟨ρ, w, ?_, .refl s, rfl⟩
      simp [convert, hs.ptr w he, hd.uptr w hk, conc, Conv.unsafePointer]
    · trivial
  · rename_i b o hk
    split
    · rename_i e he
      split
      · rename_i ae c fz hae hkn
        rw [cnd_eq]
        split
        · rename_i hc
          simp only [Bool.and_eq_true, len_eq] at hc
          have hb := known_some hkn
          exact ⟨ρ, w, toUnsafe_ok s (hs.ptr w he) (hd.uptr w hk) (hT _ _ hae) (blt_iff.1 hc.1) hb (blt_iff.1 hc.2), .refl s, blt_iff.2 (s.blk b _ hb).1⟩
        · trivial
      · trivial
    · trivial
  · rename_i u b o hk
    split
    · rename_i he
      split
      · rename_i au c fz hau hkn
        rw [cnd_eq]
        split
        · rename_i hc
          simp only [Bool.and_eq_true, len_eq, Nat.beq_eq] at hc
          obtain ⟨⟨⟨rfl, hfz⟩, h0⟩, hn⟩ := hc
          have hb := known_some hkn
          exact ⟨ρ, w, ofUnsafe_ok s (hs.uptr w he) (hd.ptr w hk) (hT _ _ hau) (blt_iff.1 h0) hb hfz (ble_iff.1 hn), .refl s, blt_iff.2 (s.blk b _ hb).1⟩
        · trivial
      · trivial
    · trivial
  · rename_i e str hk
    split
    · rename_i ae hae
      split
      · rename_i hu8
        rw [cnd_eq]
        split
        · rename_i hlen
          rw [len_eq] at hlen ⊢
          have hlen := blt_iff.1 hlen
          simp only [forceN_eq, forceL_eq]
          let q : Question := .appendCap str.length 0 e
          let nc := q.cut (w.tape w.drawn q)
          have hnc : str.length ≤ nc := Nat.le_add_right _ _
          let w1 : World := { w with drawn := w.drawn + 1 }
          let l : List AV := str.map fun c => .int .u8 (Int.ofNat c.toNat)
          let cs : Array Value := (str.toArray.map fun b => Value.int .u8 b.toNat) ++ Array.replicate (nc - str.length) (.int .u8 0)
          have hcs : cs.size = nc := by simp [cs]; omega
          have hlo : loL h.next l = true := allL_iff.2 fun v hv => by obtain ⟨c, _, rfl⟩ := List.mem_map.1 hv; rfl
          have hll : l.length = str.length := by simp [l]
          have s1 := Step.drew s
          refine ⟨_, { w with drawn := w.drawn + 1, heap := w.heap.push (.cells cs e (nc, nc + 1)) }, ?_, s1.trans (Step.add s1.sim (w := w1) (ab := .cells l 0) (size := nc) hlo
            ⟨cs, e, (nc, nc + 1), by simp [w1], by simp [hcs], (by show l.length ≤ nc; omega), fun i v hv => ?_, fun i _ h2 hc => by simp only at h2 hc; omega, fun t ht => by simp at ht⟩), blt_iff.2 (Nat.lt_succ_self h.next)⟩
          · have hch : (choose (.appendCap (⟨str.toArray⟩ : ByteArray).size 0 e)).run P w = .ok nc w1 := by simp [nc, q, w1, Question.forced]; rfl
            have hfz : World.freeze { w1 with heap := w1.heap.push (.cells cs e (0, 0)) } { block := w.heap.size, off := nc } 1 = { w with drawn := w.drawn + 1, heap := w.heap.push (.cells cs e (nc, nc + 1)) } := by
              simp only [World.freeze, Nat.one_ne_zero, if_false, w1]
              congr 1
              apply Array.ext_getElem?
              intro i
              simp only [Array.getElem?_modify, Array.getElem?_push]
              by_cases hi : w.heap.size = i
              · subst hi; simp
              · rw [if_neg hi, if_neg (fun e => hi e.symm), if_neg (fun e => hi e.symm)]
            have hst : (Conv.stringToBytes e ⟨str.toArray⟩).run P w = .ok (.slice (some ⟨w.heap.size, 0, none⟩) str.length nc) { w with drawn := w.drawn + 1, heap := w.heap.push (.cells cs e (nc, nc + 1)) } := by
              have hsh : (World.shape? { w1 with heap := w1.heap.push (.cells cs e (0, 0)) } w.heap.size) = some (e, nc) := by
                simp [World.shape?, w1, hcs]
              simp only [Conv.stringToBytes, Sem.run_bind, hch, Result.andThen_ok]
              show ((newRow e cs).run P w1).andThen _ = _
              simp only [newRow, Sem.run_bind, run_newObj, Result.andThen_ok, Sem.run_pure, markStringish, run_shape]
              rw [show w1.heap.size = w.heap.size from rfl, hsh]
              simp only [run_freeze, Result.andThen_ok]
              rw [hfz]
              rfl
            simp only [convert, Sem.run_bind, hus, hd.slice w hk, Result.andThen_ok, conc, (hT _ _ hae).int w hu8, hst]
            simp [Map.upd_self, Loc.at]
            rfl
          · have : (str.map fun c => AV.int .u8 (Int.ofNat c.toNat))[i]? = some v := hv
            rw [List.getElem?_map] at this
            cases e' : str[i]? with
            | none => rw [e'] at this; cases this
            | some c =>
              rw [e'] at this
              cases this
              have hi := (List.getElem?_eq_some_iff.1 e').1
              simp only [cs, Nat.zero_add]
              rw [Array.getElem?_append_left (by simpa using hi)]
              simp [e', conc]
        · trivial
      · trivial
    · trivial
  · trivial
end
end Go.Ev
namespace Go.Ev

/-- What an operand holds. -/
def E (tmps : Array Value) : Operand → Value
  | .tmp t => tmps.getD t undef
  | .const v => v
  | .global g => .pointer (some ⟨g, 0, none⟩)
  | .func f => .func (.func f) #[] #[]

section
variable {P : Program} {C : Ctx} {ρ : Map} {h : AH} {w : World} {n : Nat} {T : PT AV} {tmps : Array Value}

theorem with1_ok {Q : R → Prop} (hf : Q .fail) {o : Option AV} {k : AV → R} (hk : ∀ v, o = some v → Q (k v)) : Q (with1 o k) := by
  cases o with
  | none => exact hf
  | some v => exact hk v rfl
theorem with2_ok {Q : R → Prop} (hf : Q .fail) {o p : Option AV} {k : AV → AV → R} (hk : ∀ u v, o = some u → p = some v → Q (k u v)) : Q (with2 o p k) := by
  cases o with
  | none => exact hf
  | some u =>
    cases p with
    | none => exact hf
    | some v => exact hk u v rfl rfl
theorem withT_ok {Q : R → Prop} (hf : Q .fail) {ty : PT ATy} {t : Nat} {k : ATy → R} (hk : ∀ a, ty.get t = some a → Q (k a)) : Q (withT ty t k) := by
  unfold withT
  cases e : ty.get t with
  | none => exact hf
  | some a => exact hk a e
theorem withL_ok {α : Type} {Q : R → Prop} (hf : Q .fail) {o : Option (List α)} {k : List α → R} (hk : ∀ l, o = some l → Q (k l)) : Q (withL o k) := by
  cases o with
  | none => exact hf
  | some l => exact hk l rfl

variable (hC : CtxOk P C) (s : Sim C.G ρ h w) (hTR : TR ρ n T tmps) (hTB : TB h.next T)
include s hTR hTB
theorem evOpd_ok {o : Operand} {v : AV} (hv : evOpd C.G T o = some v) : E tmps o = conc ρ v ∧ v.lo h.next = true := by
  cases o with
  | tmp t =>
    have hv : T.get t = some v := hv
    have := hTR.2 t v hv
    refine ⟨?_, hTB t v hv⟩
    have hlt := (Array.getElem?_eq_some_iff.1 this).1
    have hval := (Array.getElem?_eq_some_iff.1 this).2
    simp [E, Array.getD, hlt, hval]
  | const c =>
    obtain ⟨h1, h2⟩ := ofValue_sound (show ofValue c = some v from hv)
    exact ⟨(h1 ρ).symm, h2 _⟩
  | global g =>
    change cnd (Nat.blt g C.G) (some (AV.ptr g 0)) none = some v at hv
    rw [cnd_eq] at hv
    split at hv
    · rename_i hg
      cases hv
      have hg := blt_iff.1 hg
      obtain ⟨h1, h2⟩ := s.glob g hg
      exact ⟨by simp [E, conc, Loc.at, h1, h2, s.spot g (.inl hg)], blt_iff.2 (Nat.lt_of_lt_of_le hg s.le)⟩
    · cases hv
  | func f =>
    cases (show (some (AV.fn f []) : Option AV) = some v from hv)
    exact ⟨rfl, rfl⟩
theorem evOpds_ok : ∀ {l : List Operand} {vs : List AV}, evOpds C.G T l = some vs → l.map (E tmps) = concL ρ vs ∧ loL h.next vs = true
  | [], vs, hv => by cases (show (some [] : Option (List AV)) = some vs from hv); exact ⟨rfl, rfl⟩
  | o :: l, vs, hv => by
    change oe none (evOpd C.G T o) (fun v => oe none (evOpds C.G T l) fun vs => some (v :: vs)) = some vs at hv
    rw [oe_eq] at hv
    split at hv
    · rename_i v ho
      rw [oe_eq] at hv
      split at hv
      · rename_i r hr
        cases hv
        obtain ⟨h1, h2⟩ := evOpd_ok s hTR hTB ho
        obtain ⟨h3, h4⟩ := evOpds_ok hr
        refine ⟨by simp only [List.map_cons, h1, h3, Ev.concL], ?_⟩
        show (v.lo h.next && loL h.next r) = true
        rw [h2, h4]; rfl
      · cases hv
    · cases hv
theorem evParts_ok : ∀ {l : List (Nat × Operand)} {vs : List (Nat × AV)}, evParts C.G T l = some vs →
    l.map (fun p => (p.1, E tmps p.2)) = vs.map (fun p => (p.1, conc ρ p.2)) ∧ ∀ x ∈ vs, x.2.lo h.next = true
  | [], vs, hv => by cases (show (some [] : Option (List (Nat × AV))) = some vs from hv); exact ⟨rfl, fun x hx => by cases hx⟩
  | o :: l, vs, hv => by
    change oe none (evOpd C.G T o.2) (fun v => oe none (evParts C.G T l) fun vs => some ((o.1, v) :: vs)) = some vs at hv
    rw [oe_eq] at hv
    split at hv
    · rename_i v ho
      rw [oe_eq] at hv
      split at hv
      · rename_i r hr
        cases hv
        obtain ⟨h1, h2⟩ := evOpd_ok s hTR hTB ho
        obtain ⟨h3, h4⟩ := evParts_ok hr
        refine ⟨by simp only [List.map_cons, h1, h3], fun x hx => ?_⟩
        rcases List.mem_cons.1 hx with rfl | hx
        · exact h2
        · exact h4 x hx
      · cases hv
    · cases hv
theorem optOpd_ok {Q : R → Prop} (hf : Q .fail) {o : Option Operand} {k : Option AV → R} (hk : ∀ v, o.map (E tmps) = v.map (conc ρ) → (∀ x, v = some x → x.lo h.next = true) → Q (k v)) : Q (optOpd C.G T o k) := by
  cases o with
  | none => exact hk none rfl (fun x e => by cases e)
  | some x =>
    change Q (Option.rec (motive := fun _ => R) .fail (fun v => k (some v)) (evOpd C.G T x))
    cases e : evOpd C.G T x with
    | none => exact hf
    | some v =>
      obtain ⟨h1, h2⟩ := evOpd_ok s hTR hTB e
      exact hk (some v) (by simp [h1]) (fun y hy => by cases hy; exact h2)
end
end Go.Ev
namespace Go.Ev

section
variable {P : Program} {C : Ctx} {ρ : Map} {h : AH} {w : World} {n : Nat} {T : PT AV} {tmps : Array Value}

/-- The same run. -/
theorem OpOk.of_eq {x y : Sem Next} {r : R} (e : x = y) (hr : OpOk P C.G ρ h w y r) : OpOk P C.G ρ h w x r := e ▸ hr

theorem R.ofVal_ok (s : Sim C.G ρ h w) {x : Sem Next} {o : Option AV} (ho : ∀ v, o = some v → x.run P w = .ok (.value (conc ρ v)) w ∧ v.lo h.next = true) : OpOk P C.G ρ h w x (R.ofVal h o) := by
  cases o with
  | none => trivial
  | some v => exact ⟨ρ, w, (ho v rfl).1, .refl s, (ho v rfl).2⟩

theorem evNilCheck_ok (s : Sim C.G ρ h w) {x : AV} (hx : x.lo h.next = true) {o : Oper} {op : Operand} (ho : o.op = .nilCheck op) {f : Operand → Value} (hf : f op = conc ρ x) : OpOk P C.G ρ h w (execOp f o) (evNilCheck x h) := by
  unfold evNilCheck
  have e : execOp f o = (match conc ρ x with
    | .pointer none | .nilIface | .nilFunc => runtimePanic .nilDeref
    | .func (.method name) first captured =>
      match (first[0]? : Option Value) with
      | some .nilIface => runtimePanic .nilDeref
      | some (.iface t w) => do
        if (← nilAhead ((← program).types.size + Made.depth) t w name) != some false then
          unsupported (.noEntry "op/nilCheck.the method's receiver behind this interface value is a nil pointer, or cannot be seen to be none, and the arguments act or may panic (ledger 612)")
        pure (.value (.func (.method name) first captured))
      | _ => pure (.value (.func (.method name) first captured))
    | x => pure (.value x)) := by
    unfold execOp; rw [ho, ← hf]; rfl
  rw [e]
  cases x <;> first
    | trivial
    | exact ⟨ρ, w, rfl, .refl s, hx⟩

theorem three_ok (nm : String) {x y c : Nat} (hc : c ≤ 1) :
    (Extern.MathBitsCarry.three nm #[.int .u64 (Int.ofNat x), .int .u64 (Int.ofNat y), .int .u64 (Int.ofNat c)]).run P w = .ok (x, y, c) w := by
  have e : Extern.MathBitsCarry.three nm #[.int .u64 (Int.ofNat x), .int .u64 (Int.ofNat y), .int .u64 (Int.ofNat c)] = (do
    let c := (← asInt (.int .u64 (Int.ofNat c))).toNat
    if c > 1 then unsupported (.noEntry ("extern/math/bits." ++ nm ++ ": a carry that is neither 0 nor 1"))
    pure ((← asInt (.int .u64 (Int.ofNat x))).toNat, (← asInt (.int .u64 (Int.ofNat y))).toNat, c)) := rfl
  rw [e]
  simp [asInt, asIntOf]
  omega
theorem run_callFunc_ext {f : FuncId} {fn : Func} (h1 : P.funcs[f]? = some fn) (h2 : fn.body = none) (h3 : fn.name ≠ "runtime.NumGoroutine") (h4 : Extern.findNext fn = none) {e : Array Value → Sem Value} {as : Array Value} {v : Value}
    (he : Extern.find fn = some e) (hv : (e as).run P w = .ok v w) : (callFunc f as).run P w = .ok (.value v) w := by
  have hn : (fn.name == "runtime.NumGoroutine") = false := by simpa using h3
  unfold callFunc
  simp only [Sem.run_bind, run_program, Result.andThen_ok, h1, hn, h2, Option.isNone_none, if_true, Bool.false_eq_true, if_false, run_mark, h4, he, hv, Sem.run_pure]
theorem evExt_ok (hC : CtxOk P C) (s : Sim C.G ρ h w) {f k : Nat} (hk : C.ext.get f = some k) {args : List AV} (ha : loL h.next args = true) :
    OpOk P C.G ρ h w (callFunc f (concL ρ args).toArray) (evExt k args h) := by
  obtain ⟨fn, h1, h2, h3, h4, h5⟩ := hC.ext f k hk
  unfold evExt
  split
  · rename_i x y c
    rw [cnd_eq]
    split
    · rename_i hc
      have hc := ble_iff.1 hc
      refine ⟨ρ, w, run_callFunc_ext h1 h2 h3 h4 h5 ?_, .refl s, rfl⟩
      have := three_ok (P := P) (w := w) "Add64" (x := x) (y := y) hc
      simp only [Ev.concL, conc, Sem.run_bind]
      rw [this]
      rfl
    · trivial
  · rename_i x y c
    rw [cnd_eq]
    split
    · rename_i hc
      have hc := ble_iff.1 hc
      refine ⟨ρ, w, run_callFunc_ext h1 h2 h3 h4 h5 ?_, .refl s, by simp [AV.all, allL]⟩
      have := three_ok (P := P) (w := w) "Sub64" (x := x) (y := y) hc
      simp only [Ev.concL, conc, Sem.run_bind]
      rw [this]
      have e : (Nat.blt x (Nat.add y c) = true) ↔ x < y + c := blt_iff
      simp only [Result.andThen_ok, Sem.run_pure, Extern.MathBitsCarry.pair]
      rw [cnd_eq]
      by_cases hlt : x < y + c
      · rw [if_pos (e.2 hlt), if_pos hlt]; rfl
      · rw [if_neg (fun q => hlt (e.1 q)), if_neg hlt]; rfl
    · trivial
  · rename_i x
    refine ⟨ρ, w, run_callFunc_ext h1 h2 h3 h4 h5 ?_, .refl s, ?_⟩
    · rfl
    · simpa [allL] using ha
  · trivial

theorem callee_ok (hC : CtxOk P C) (s : Sim C.G ρ h w) (f : FuncId) {args : List AV} (ha : loL h.next args = true) : OpOk P C.G ρ h w (callFunc f (concL ρ args).toArray) (callee C f args h) := by
  unfold callee
  cases e : C.ext.get f with
  | some k => exact evExt_ok hC s e ha
  | none =>
    show OpOk _ _ _ _ _ _ (Option.rec (motive := fun _ => R) .fail (fun _ => .call f args h) (C.fn.get f))
    cases e2 : C.fn.get f with
    | none => trivial
    | some fn =>
      obtain ⟨h1, h2, h3⟩ := hC.fn f fn e2
      refine ⟨ρ, w, ?_, .refl s, ha⟩
      have hn : (fn.name == "runtime.NumGoroutine") = false := by simpa using h2
      have hb : fn.body.isNone = false := by
        cases e : fn.body with
        | none => rw [e] at h3; cases h3
        | some c => rfl
      unfold callFunc
      simp only [Sem.run_bind, run_program, Result.andThen_ok, h1, hn, hb, Bool.false_eq_true, if_false, Sem.run_pure]

theorem evCallee_ok (hC : CtxOk P C) (s : Sim C.G ρ h w) {f : AV} {args : List AV} (hf : f.lo h.next = true) (ha : loL h.next args = true) :
    OpOk P C.G ρ h w (do let d ← Deferred.ofValue (conc ρ f) (concL ρ args).toArray; invoke d.target d.args) (evCallee C f args h) := by
  unfold evCallee
  split
  · rename_i g caps
    split
    · refine OpOk.of_eq ?_ (callee_ok hC s g ha)
      show (Deferred.ofValue (.func (.func g) #[] #[]) (concL ρ args).toArray >>= fun d => invoke d.target d.args) = _
      simp [Deferred.ofValue, invoke]
    · rw [forceL_eq]
      have hcap : loL h.next caps = true := hf
      refine OpOk.of_eq ?_ (callee_ok hC s g (allL_append ha hcap))
      rw [concL_append]
      simp [Deferred.ofValue, conc, invoke]
  · rename_i l
    refine ⟨ρ, w, ?_, .refl s, blt_iff.1 hf, ha⟩
    simp [Deferred.ofValue, conc, invoke]
  · trivial

theorem seqTy_ok (hC : CtxOk P C) {t t2 : TypeId} {ts : List TypeId} (h : seqTy C.ty (t2 :: ts) = true) : SeqTy P t2 := by
  change oe false (C.ty.get t2) (fun a => a.d.isSeq) = true at h
  rw [oe_eq] at h
  split at h
  · rename_i a ha
    have hT := hC.ty _ _ ha
    cases hd : a.d <;> rw [hd] at h <;> first | (cases h; done) | skip
    · exact .inr fun w => hT.str w hd
    · rename_i e; exact .inl ⟨e, fun w => hT.slice w hd⟩
  · cases h


theorem evSliceData_ok {G : Nat} (s : Sim G ρ h w) {ty : PT ATy} {a : ATy} {ts : Array TypeId} {ty2 : TypeId} {x : AV} (hx : x.lo h.next = true) : VOk P G ρ h w (Builtin.unsafeSliceData_ ts ty2 #[conc ρ x]) (evSliceData ty a x h) := by
  have row : ∀ (p : Addr) (n c : Nat), 0 < c → (Builtin.unsafeSliceData_ ts ty2 #[.slice (some p) n c]).run P w = .ok (.pointer (some p)) w := by
    intro p n c hc
    obtain ⟨k, rfl⟩ : ∃ k, c = k + 1 := ⟨c - 1, by omega⟩
    rfl
  unfold evSliceData
  split
  · exact ⟨ρ, w, rfl, .refl s, rfl⟩
  · rename_i b off n c
    rw [cnd_eq]
    split
    · rename_i hc
      exact ⟨ρ, w, row _ _ _ (blt_iff.1 hc), .refl s, hx⟩
    · trivial
  · rename_i b off n es
    split
    · rename_i c fz hk
      rw [cnd_eq]
      split
      · rename_i hc
        simp only [Bool.and_eq_true, len_eq] at hc
        obtain ⟨⟨h1, h2⟩, h3⟩ := hc
        have h2 := blt_iff.1 h2
        have h3 : off + es ≤ c.length := ble_iff.1 h3
        obtain ⟨_, _, cs, e, fr, g1, g2, g3, g4, g5⟩ := s.blk b _ (known_some hk)
        refine ⟨ρ, w, row _ _ _ ?_, .refl s, hx⟩
        rw [Nat.lt_iff_add_one_le, Nat.le_div_iff_mul_le h2]
        omega
      · trivial
    · trivial
  · trivial

theorem run_loadB {ρ : Map} : ∀ {l : List AV} {r : List UInt8}, toBytes l = some r → ∀ (a : Addr) (acc : ByteArray), (∀ (j : Nat) (v : AV), l[j]? = some v → w.cell? (a.add j) = some (conc ρ v)) →
    (loadBytes a acc l.length).run P w = .ok ⟨acc.data ++ r.toArray⟩ w
  | [], r, h, a, acc, _ => by cases h; simp [loadBytes]
  | v :: l, r, h, a, acc, hc => by
    unfold toBytes at h
    split at h
    · rename_i n
      split at h
      · rename_i r' hr
        cases h
        have h0 : w.cell? a = some (.int .u8 (Int.ofNat n)) := by
          have := hc 0 _ rfl
          simpa [Addr.add, conc] using this
        have ih := run_loadB (ρ := ρ) hr (a.add 1) (acc.push (UInt8.ofNat n)) (fun j y hy => by
          have := hc (j + 1) y (by simpa using hy)
          have e : (a.add 1).add j = a.add (j + 1) := by
            unfold Addr.add
            by_cases hj : j = 0
            · subst hj; simp
            · simp [hj]; omega
          rw [e]; exact this)
        have hx : ((Int.ofNat n).toNat).toUInt8 = UInt8.ofNat n := rfl
        simp only [List.length_cons, loadBytes, Sem.run_bind, run_load, h0, Result.andThen, hx]
        rw [ih]
        congr 1
        apply ByteArray.ext
        simp [ByteArray.push]
      · cases h
    · cases h
theorem toBytes_len : ∀ {l : List AV} {r : List UInt8}, toBytes l = some r → r.length = l.length
  | [], r, h => by cases h; rfl
  | v :: l, r, h => by
    unfold toBytes at h
    split at h
    · split at h
      · rename_i hr
        cases h
        simp [toBytes_len hr]
      · cases h
    · cases h
set_option maxRecDepth 20000 in
theorem run_unsafeStr {ρ : Map} {pt it ty2 e : TypeId} (hp : P.underlying pt = some (.pointer e)) (hc : P.cellsOf e = 1) {g cells : Nat} (hsh : w.shape? g = some (e, cells)) {l : List AV} {r : List UInt8} (hr : toBytes l = some r) (h0 : 0 < l.length)
    (hn : l.length ≤ cells) (h63 : l.length ≤ 9223372036854775807) (hcell : ∀ (j : Nat) (v : AV), l[j]? = some v → w.cell? ((⟨g, 0, none⟩ : Addr).add j) = some (conc ρ v)) (rest : List TypeId) :
    (Builtin.unsafeString_ (pt :: rest).toArray ty2 #[.pointer (some ⟨g, 0, none⟩), .int .i64 l.length]).run P w = .ok (.string ⟨r.toArray⟩) (w.freeze ⟨g, 0, none⟩ l.length) := by
  have hl : l.length ≠ 0 := by omega
  have hlb := run_loadB (P := P) (w := w) hr ⟨g, 0, none⟩ .empty hcell
  have hlies : liesAt P P.depth e (cells / P.cellsOf e) 0 e l.length = true := by
    have hd : P.depth = (2 * (P.types.size + Made.depth) + 1) + 1 := rfl
    rw [hd]
    simp only [liesAt, Bool.or_eq_true]
    left
    rw [hd]
    simp [rowAt, hc, hn, sameLayout]
  have h63' : ¬ (9223372036854775807 : Int) < (l.length : Int) := by omega
  have hdef : Builtin.unsafeString_ (pt :: rest).toArray ty2 #[.pointer (some ⟨g, 0, none⟩), .int .i64 l.length] =
      (do
        let n ← asInt (.int .i64 l.length)
        if n < 0 then runtimePanic (.error "unsafe.String: len out of range")
        if n > IntKind.i64.max then unsupported (.unsafePointer "String: a length above the largest int")
        if n = 0 then pure (.string .empty)
        else if ← variablesAt ⟨g, 0, none⟩ (← Go.elemOf pt) n.toNat then do
          let s ← loadBytes ⟨g, 0, none⟩ .empty n.toNat
          freeze ⟨g, 0, none⟩ n.toNat
          pure (.string s)
        else unsupported (.unsafePointer "String: not so many bytes at ptr")) := rfl
  rw [hdef]
  have hmax : IntKind.i64.max = 9223372036854775807 := rfl
  have hneg : ¬ (l.length : Int) < 0 := by omega
  have hun : (underlying pt).run P w = .ok (.pointer e) w := by simp [underlying, hp]
  have hmx : ¬ ((l.length : Int) > IntKind.i64.max) := by rw [hmax]; exact h63'
  have hz : ¬ ((l.length : Int) = 0) := by omega
  have hnat : (l.length : Int).toNat = l.length := rfl
  have hvar : (variablesAt ⟨g, 0, none⟩ e l.length).run P w = .ok true w := by
    simp only [variablesAt, Sem.run_bind, run_program, Result.andThen_ok, run_shape, hsh, Sem.run_pure, hlies]
  have hel : (Go.elemOf pt).run P w = .ok e w := by
    simp only [Go.elemOf, Sem.run_bind, hun, Result.andThen_ok, Sem.run_pure]
  simp only [asInt, asIntOf, Sem.run_bind, Sem.run_pure, Result.andThen_ok, if_neg hneg, if_neg hmx, if_neg hz, hel, hnat, hvar, if_true, hlb, run_freeze]
  show Result.ok (Value.string ⟨(#[] : Array UInt8) ++ r.toArray⟩) _ = _
  rw [Array.empty_append]
theorem fzFreeze_eq (fz n : Nat) : fzFreeze fz n = max (fz / 65536) n * 65536 + fz % 65536 := by
  unfold fzFreeze
  have e : Nat.div fz 65536 = fz / 65536 := rfl
  rw [e]
  cases hb : Nat.ble (fz / 65536) n with
  | true =>
    have := ble_iff.1 hb
    show n * 65536 + fz % 65536 = _
    rw [Nat.max_eq_right this]
  | false =>
    have : ¬ fz / 65536 ≤ n := fun q => by rw [ble_iff.2 q] at hb; cases hb
    show fz / 65536 * 65536 + fz % 65536 = _
    rw [Nat.max_eq_left (by omega)]
theorem fzFreeze_div (fz n : Nat) : fzFreeze fz n / 65536 = max (fz / 65536) n := by
  rw [fzFreeze_eq]
  omega
theorem fzFreeze_mod (fz n : Nat) : fzFreeze fz n % 65536 = fz % 65536 := by
  rw [fzFreeze_eq]
  omega
theorem evString_ok {G : Nat} {ty : PT ATy} (hT : ∀ t a, ty.get t = some a → TyIs P t a) (s : Sim G ρ h w) {t ty2 : TypeId} {a : ATy} {rest : List TypeId} (ht : TyIs P t a) {p n : AV} (hp : p.lo h.next = true) :
    VOk P G ρ h w (Builtin.unsafeString_ (t :: rest).toArray ty2 #[conc ρ p, conc ρ n]) (evString ty a p n h) := by
  unfold evString
  split
  · rename_i e n hd
    rw [cnd_eq]
    split
    · rename_i hn
      have hn := Nat.eq_of_beq_eq_true hn
      subst hn
      refine ⟨ρ, w, ?_, .refl s, rfl⟩
      have hdef : Builtin.unsafeString_ (t :: rest).toArray ty2 #[.pointer none, .int .i64 0] =
          (do
            let n ← asInt (.int .i64 0)
            if n < 0 then runtimePanic (.error "unsafe.String: len out of range")
            if n > IntKind.i64.max then unsupported (.unsafePointer "String: a length above the largest int")
            if n = 0 then pure (.string .empty)
            else runtimePanic (.error "unsafe.String: ptr is nil and len is not zero")) := rfl
      show (Builtin.unsafeString_ (t :: rest).toArray ty2 #[.pointer none, .int .i64 0]).run P w = .ok (.string ⟨#[]⟩) w
      rw [hdef]
      have hmax : IntKind.i64.max = 9223372036854775807 := rfl
      simp [asInt, asIntOf, hmax]
      rfl
    · trivial
  · rename_i e b o n hd
    split
    · rename_i ae hae
      rw [cnd_eq]
      split
      · rename_i hc
        simp only [Bool.and_eq_true, Nat.beq_eq] at hc
        obtain ⟨⟨rfl, hs1⟩, hn0⟩ := hc
        have hn0 := blt_iff.1 hn0
        unfold stringAt
        split
        · rename_i c fz hk
          rw [cnd_eq]
          split
          · rename_i hc2
            simp only [Bool.and_eq_true, Nat.beq_eq] at hc2
            obtain ⟨hfz, hbig⟩ := hc2
            have hbig := blt_iff.1 hbig
            split
            · rename_i l hl
              split
              · rename_i r hr
                rw [forceL_eq, forceN_eq]
                have hb := known_some hk
                obtain ⟨hbn, hblo, cs, e', ⟨lo, hi⟩, g1, g2, g3, g4, g5⟩ := s.blk b _ hb
                obtain ⟨rfl, hsft, hfr⟩ := g5.2 e hfz
                obtain ⟨hll, hget, hle, _⟩ := sub_sound hl
                obtain ⟨d, hu1, hu2⟩ := ht.under
                have hunder : P.underlying t = some (.pointer e') := by
                  rw [hd] at hu2
                  rw [hu1, ad_ptr hu2]
                have hcell1 : P.cellsOf e' = 1 := by rw [(hT _ _ hae).cellsOf]; exact hs1
                have hsh : w.shape? (ρ b).blk = some (e', cs.size) := by simp [World.shape?, g1]
                have hrun := run_unsafeStr (P := P) (ρ := ρ) (it := t) (ty2 := ty2) hunder hcell1 hsh hr (by omega) (by omega) (by omega) (fun j v hj => by
                  have hjl := (List.getElem?_eq_some_iff.1 hj).1
                  have h1 := hget j (by omega)
                  rw [hj] at h1
                  have h2 := s.cell hb (i := 0 + j) (v := v) h1.symm
                  have e1 : (ρ b).at (0 + j) = (⟨(ρ b).blk, 0, none⟩ : Addr).add j := by
                    rw [Loc.at_none (s.spot b (.inr ⟨_, hb⟩))]
                    unfold Addr.add
                    rw [hsft]
                    split
                    · rename_i q; subst q; rfl
                    · simp
                  rw [← e1]; exact h2) rest
                have e1 : conc ρ (.ptr b 0) = .pointer (some ⟨(ρ b).blk, 0, none⟩) := by
                  show Value.pointer (some ((ρ b).at 0)) = _
                  rw [Loc.at_none (s.spot b (.inr ⟨_, hb⟩))]
                  rw [hsft]
                have e2 : conc ρ (.int .i64 (.ofNat n)) = .int .i64 (l.length : Int) := by rw [hll]; rfl
                rw [e1, e2]
                rw [hll] at hrun ⊢
                refine ⟨ρ, _, hrun, ?_, rfl⟩
                have hne : n ≠ 0 := by omega
                have hw : w.freeze ⟨(ρ b).blk, 0, none⟩ n = { w with heap := w.heap.setIfInBounds (ρ b).blk (.cells cs e' (if lo == hi then (0, 0 + n) else (min lo 0, max hi (0 + n)))) } := by
                  unfold World.freeze
                  rw [if_neg hne]
                  congr 1
                  apply Array.ext_getElem?
                  intro i
                  rw [Array.getElem?_modify, Array.getElem?_setIfInBounds]
                  by_cases hi : (ρ b).blk = i
                  · subst hi
                    obtain ⟨hlt, g1'⟩ := Array.getElem?_eq_some_iff.1 g1
                    simp [g1', hlt]
                  · rw [if_neg hi, if_neg hi]
                rw [hw]
                refine Step.set s hb (fun q => by have q : fz % 65536 = 0 := q.2; have hfz : fz % 65536 = e' + 1 := hfz; omega) hblo rfl rfl rfl (by simp) (fun B hB => by
                  show (w.heap.setIfInBounds _ _)[B]? = _
                  rw [Array.getElem?_setIfInBounds, if_neg (fun q => hB q.symm)]) ⟨cs, e', (if lo == hi then (0, 0 + n) else (min lo 0, max hi (0 + n))), by
                    have hlt := (Array.getElem?_eq_some_iff.1 g1).1
                    show (w.heap.setIfInBounds _ _)[(ρ b).blk]? = _
                    rw [Array.getElem?_setIfInBounds, if_pos rfl, if_pos hlt], g2, g3, g4, fun i h1 h2 h3 => ?_, fun t' ht' => ?_⟩
                · rw [fzFreeze_div] at h1
                  rw [hsft] at h3
                  split at h3 <;> simp only at h3 <;> omega
                · rw [fzFreeze_mod] at ht'
                  obtain ⟨q1, q2, q3⟩ := g5.2 t' ht'
                  refine ⟨q1, q2, ?_⟩
                  rw [fzFreeze_div]
                  by_cases q : (lo == hi) = true
                  · rw [if_pos q]; show 0 + n ≤ _; omega
                  · rw [if_neg q]; have q3 : hi ≤ fz / 65536 := q3; show max hi (0 + n) ≤ _; omega
              · trivial
            · trivial
          · trivial
        · trivial
      · trivial
    · trivial
  · trivial

/-- A built-in function. -/
theorem evBuiltin_ok (hC : CtxOk P C) (s : Sim C.G ρ h w) {b : Builtin} {t ty2 : TypeId} {a : ATy} {ts : List TypeId} {cs : Array Bool} (ht : C.ty.get t = some a) {args : List AV} (ha : loL h.next args = true) :
    OpOk P C.G ρ h w (builtin b (t :: ts).toArray ty2 cs (concL ρ args).toArray) (evBuiltin b C.ty a ts args h) := by
  have hT := hC.ty
  have hta := hT _ _ ht
  have two : ∀ {k : PT ATy → ATy → AV → AV → AH → R}, (∀ x y, args = [x, y] → OpOk P C.G ρ h w (builtin b (t :: ts).toArray ty2 cs (concL ρ args).toArray) (k C.ty a x y h)) →
      OpOk P C.G ρ h w (builtin b (t :: ts).toArray ty2 cs (concL ρ args).toArray) (arg2 k C.ty a ts args h) := by
    intro k hk
    match args, hk with
    | [], _ => trivial
    | [_], _ => trivial
    | [x, y], hk => exact hk x y rfl
    | _ :: _ :: _ :: _, _ => trivial
  have one : ∀ {k : PT ATy → ATy → AV → AH → R}, (∀ x, args = [x] → OpOk P C.G ρ h w (builtin b (t :: ts).toArray ty2 cs (concL ρ args).toArray) (k C.ty a x h)) →
      OpOk P C.G ρ h w (builtin b (t :: ts).toArray ty2 cs (concL ρ args).toArray) (arg1 k C.ty a ts args h) := by
    intro k hk
    match args, hk with
    | [], _ => trivial
    | [x], hk => exact hk x rfl
    | _ :: _ :: _, _ => trivial
  have hts : (t :: ts).toArray[0]? = some t := by simp
  unfold evBuiltin
  split
  · -- append
    unfold argA
    rw [cnd_eq]
    split
    · rename_i hseq
      refine two fun x y e => ?_
      subst e
      match ts, hseq with
      | [], hseq => cases hseq
      | t2 :: ts, hseq =>
        have h2 := seqTy_ok (t := t) hC hseq
        have hx : x.lo h.next = true := (Bool.and_eq_true_iff.1 ha).1
        have := evAppend_ok (ty2 := ty2) hT s hta h2 (sv := x) (x := y) hx
        refine OpOk.of_eq ?_ this.op
        show (do pure (Next.value (← Builtin.append_ (t :: t2 :: ts).toArray ty2 #[conc ρ x, conc ρ y]))) = _
        have e : Builtin.append_ (t :: t2 :: ts).toArray ty2 #[conc ρ x, conc ρ y] = Builtin.append_ #[t, t2] ty2 #[conc ρ x, conc ρ y] := by
          simp [Builtin.append_]
        rw [e]
    · trivial
  · refine two fun x y e => ?_
    subst e
    match ts with
    | [] => 
      refine OpOk.of_eq ?_ (evCopy_ok (t2 := t) (ty2 := ty2) hT s hta (d := x) (x := y)).op
      show (do pure (Next.value (← Builtin.copy_ [t].toArray ty2 #[conc ρ x, conc ρ y]))) = _
      have e : Builtin.copy_ [t].toArray ty2 #[conc ρ x, conc ρ y] = Builtin.copy_ #[t, t] ty2 #[conc ρ x, conc ρ y] := by simp [Builtin.copy_]
      rw [e]
    | t2 :: ts =>
      refine OpOk.of_eq ?_ (evCopy_ok (t2 := t2) (ty2 := ty2) hT s hta (d := x) (x := y)).op
      show (do pure (Next.value (← Builtin.copy_ (t :: t2 :: ts).toArray ty2 #[conc ρ x, conc ρ y]))) = _
      have e : Builtin.copy_ (t :: t2 :: ts).toArray ty2 #[conc ρ x, conc ρ y] = Builtin.copy_ #[t, t2] ty2 #[conc ρ x, conc ρ y] := by simp [Builtin.copy_]
      rw [e]
  · refine one fun x e => ?_
    subst e
    refine R.ofVal_ok s fun v hv => ?_
    obtain ⟨h1, h2⟩ := evLen_ok (P := P) (ty2 := ty2) hT s hta hts hv
    refine ⟨?_, h2⟩
    show (do pure (Next.value (← Builtin.len_ (t :: ts).toArray ty2 #[conc ρ x])) : Sem Next).run P w = _
    simp only [Sem.run_bind, h1, Result.andThen_ok, Sem.run_pure]
  · refine one fun x e => ?_
    subst e
    refine R.ofVal_ok s fun v hv => ?_
    obtain ⟨h1, h2⟩ := evCap_ok (P := P) (ρ := ρ) (h := h) (w := w) (ty2 := ty2) hta hts hv
    refine ⟨?_, h2⟩
    show (do pure (Next.value (← Builtin.cap_ (t :: ts).toArray ty2 #[conc ρ x])) : Sem Next).run P w = _
    simp only [Sem.run_bind, h1, Result.andThen_ok, Sem.run_pure]
  · refine two fun x y e => ?_
    subst e
    exact OpOk.of_eq rfl (evDelete_ok (ty2 := ty2) hT s hta hts (x := x) (k := y)).op
  · cases args with
    | nil => trivial
    | cons x l =>
      refine R.ofVal_ok s fun v hv => ?_
      have hx := Bool.and_eq_true_iff.1 ha
      obtain ⟨h1, h2⟩ := minL_ok (P := P) (ρ := ρ) (w := w) (min := true) hx.1 hv
      refine ⟨?_, h2⟩
      show (do pure (Next.value (← Builtin.min_ (t :: ts).toArray ty2 (concL ρ (x :: l)).toArray)) : Sem Next).run P w = _
      have e : Builtin.min_ (t :: ts).toArray ty2 (concL ρ (x :: l)).toArray = (concL ρ l).foldlM Builtin.min2 (conc ρ x) := rfl
      rw [e]
      have h1 : ((concL ρ l).foldlM Builtin.min2 (conc ρ x)).run P w = .ok (conc ρ v) w := h1
      simp only [Sem.run_bind, h1, Result.andThen_ok, Sem.run_pure]
  · cases args with
    | nil => trivial
    | cons x l =>
      refine R.ofVal_ok s fun v hv => ?_
      have hx := Bool.and_eq_true_iff.1 ha
      obtain ⟨h1, h2⟩ := minL_ok (P := P) (ρ := ρ) (w := w) (min := false) hx.1 hv
      refine ⟨?_, h2⟩
      show (do pure (Next.value (← Builtin.max_ (t :: ts).toArray ty2 (concL ρ (x :: l)).toArray)) : Sem Next).run P w = _
      have e : Builtin.max_ (t :: ts).toArray ty2 (concL ρ (x :: l)).toArray = (concL ρ l).foldlM Builtin.max2 (conc ρ x) := rfl
      rw [e]
      have h1 : ((concL ρ l).foldlM Builtin.max2 (conc ρ x)).run P w = .ok (conc ρ v) w := h1
      simp only [Sem.run_bind, h1, Result.andThen_ok, Sem.run_pure]
  · refine one fun x e => ?_
    subst e
    exact OpOk.of_eq rfl (evSliceData_ok (ts := (t :: ts).toArray) (ty2 := ty2) s (Bool.and_eq_true_iff.1 ha).1).op
  · refine two fun x y e => ?_
    subst e
    exact OpOk.of_eq rfl (evString_ok (ty2 := ty2) (rest := ts) hT s hta (Bool.and_eq_true_iff.1 ha).1).op
  · trivial

theorem evCall_ok (hC : CtxOk P C) (s : Sim C.G ρ h w) (hTR : TR ρ n T tmps) (hTB : TB h.next T) (c : Call) (ty2 : TypeId) :
    OpOk P C.G ρ h w (do let d ← resolve (E tmps) c ty2; invoke d.target d.args) (evCall C T h c) := by
  unfold evCall
  refine withL_ok (Q := OpOk P C.G ρ h w _) trivial fun args ha => ?_
  obtain ⟨h1, h2⟩ := evOpds_ok s hTR hTB ha
  have hargs : c.args.map (E tmps) = (concL ρ args).toArray := by
    apply Array.ext'
    rw [Array.toList_map, h1]
  cases hc : c.callee with
  | value f =>
    refine with1_ok (Q := OpOk P C.G ρ h w _) trivial fun fv hf => ?_
    obtain ⟨h3, h4⟩ := evOpd_ok s hTR hTB hf
    refine OpOk.of_eq ?_ (evCallee_ok hC s h4 h2)
    simp only [resolve, hc, hargs, h3]
  | invoke r nm => trivial
  | builtin b =>
    cases hts : c.argTypes.toList with
    | nil => trivial
    | cons t ts =>
      refine withT_ok (Q := OpOk P C.G ρ h w _) trivial fun a hta => ?_
      refine OpOk.of_eq ?_ (evBuiltin_ok (ty2 := ty2) (cs := c.args.map fun | .const _ => true | _ => false) hC s hta h2)
      have e : c.argTypes = (t :: ts).toArray := by apply Array.ext'; rw [hts]
      simp only [resolve, hc, hargs, e]
      rfl

/-- EVERY OPERATION. -/
theorem evOp_ok (hC : CtxOk P C) (s : Sim C.G ρ h w) (hTR : TR ρ n T tmps) (hTB : TB h.next T) (o : Oper) : OpOk P C.G ρ h w (execOp (E tmps) o) (evOp o.op C T h) := by
  obtain ⟨dst, op, ty2, pos, after, guard⟩ := o
  have hT := hC.ty
  have opd : ∀ {o : Operand} {v : AV}, evOpd C.G T o = some v → E tmps o = conc ρ v ∧ v.lo h.next = true := evOpd_ok s hTR hTB
  cases op
  case move x => exact R.ofVal_ok s fun v hv => by obtain ⟨h1, h2⟩ := opd hv; exact ⟨by simp [execOp, h1], h2⟩
  case assign x => exact R.ofVal_ok s fun v hv => by obtain ⟨h1, h2⟩ := opd hv; exact ⟨by simp [execOp, h1], h2⟩
  case pick c a b =>
    refine with1_ok (Q := OpOk P C.G ρ h w _) trivial fun cv hc => with2_ok (Q := OpOk P C.G ρ h w _) trivial fun av bv ha hb => ?_
    obtain ⟨h1, hlo⟩ := opd hc
    clear hlo
    obtain ⟨h3, h4⟩ := opd ha
    obtain ⟨h5, h6⟩ := opd hb
    unfold evPick
    rw [AV.boolE_eq]
    cases cv <;> try trivial
    rename_i bb
    simp only [cnd_eq]
    cases bb
    · exact ⟨ρ, w, by simp [execOp, h1, conc, asBool, h5], .refl s, h6⟩
    · exact ⟨ρ, w, by simp [execOp, h1, conc, asBool, h3], .refl s, h4⟩
  case alloc t =>
    refine withT_ok (Q := OpOk P C.G ρ h w _) trivial fun a ha => ?_
    have hta := hT _ _ ha
    obtain ⟨z, hz1, hz2, _⟩ := hta.run_zero w
    refine VOk.op (s := Instr.alloc t true (.tuple #[])) ?_
    have hnew := evNew_ok (P := P) s (hta.zero _) (e := t) (fun _ h => fzNew_mod h) (cs := z.cells) (by rw [hz2]) rfl
    have e : ∀ r, (VOk P C.G ρ h w (do pure (.pointer (some (← newRow t z.cells)))) r) → VOk P C.G ρ h w (Instr.alloc t true (.tuple #[])) r := by
      intro r hr
      have hrun : (Instr.alloc t true (.tuple #[])).run P w = (do pure (Value.pointer (some (← newRow t z.cells))) : Sem Value).run P w := by
        simp [Instr.alloc, hz1, newVar]
      cases r <;> simp only [VOk] at hr ⊢ <;> first | exact hr | (rw [hrun]; exact hr)
    exact e _ hnew
  case box t x =>
    refine with1_ok (Q := OpOk P C.G ρ h w _) trivial fun v hv => ?_
    obtain ⟨h1, h2⟩ := opd hv
    refine OpOk.of_eq ?_ (evNew_ok (P := P) s (lo_cells h2) (e := t) (fun _ h => by simp at h) (cs := (conc ρ v).cells) (conc_cells ρ v) rfl).op
    simp only [execOp, h1]; rfl
  case build t ps =>
    refine withT_ok (Q := OpOk P C.G ρ h w _) trivial fun a ha => withL_ok (Q := OpOk P C.G ρ h w _) trivial fun l hl => ?_
    obtain ⟨h1, h2⟩ := evParts_ok s hTR hTB hl
    refine OpOk.of_eq ?_ (evBuild_ok hT s (hT _ _ ha) h2).op
    have e : (ps.map fun (i, x) => (i, E tmps x)) = (l.map fun p => (p.1, conc ρ p.2)).toArray := by
      apply Array.ext'
      rw [Array.toList_map]
      exact h1
    simp only [execOp, e]
  case buildSlice t k ps =>
    refine withT_ok (Q := OpOk P C.G ρ h w _) trivial fun a ha => withL_ok (Q := OpOk P C.G ρ h w _) trivial fun l hl => ?_
    obtain ⟨h1, h2⟩ := evParts_ok s hTR hTB hl
    refine OpOk.of_eq ?_ (evBuildSlice_ok hT s (hT _ _ ha) k h2).op
    have e : (ps.map fun (i, x) => (i, E tmps x)) = (l.map fun p => (p.1, conc ρ p.2)).toArray := by
      apply Array.ext'
      rw [Array.toList_map]
      exact h1
    simp only [execOp, e]
  case insert t m k v =>
    refine withT_ok (Q := OpOk P C.G ρ h w _) trivial fun a ha => with1_ok (Q := OpOk P C.G ρ h w _) trivial fun mv hm => with2_ok (Q := OpOk P C.G ρ h w _) trivial fun kv vv hk hv => ?_
    obtain ⟨h1, _⟩ := opd hm; obtain ⟨h3, h4⟩ := opd hk; obtain ⟨h5, h6⟩ := opd hv
    refine OpOk.of_eq ?_ (evMapUpdate_ok hT s (hT _ _ ha) (x := mv) h4 h6).op
    simp only [execOp, h1, h3, h5]
  case mapUpdate t m k v =>
    refine withT_ok (Q := OpOk P C.G ρ h w _) trivial fun a ha => with1_ok (Q := OpOk P C.G ρ h w _) trivial fun mv hm => with2_ok (Q := OpOk P C.G ρ h w _) trivial fun kv vv hk hv => ?_
    obtain ⟨h1, _⟩ := opd hm; obtain ⟨h3, h4⟩ := opd hk; obtain ⟨h5, h6⟩ := opd hv
    refine OpOk.of_eq ?_ (evMapUpdate_ok hT s (hT _ _ ha) (x := mv) h4 h6).op
    simp only [execOp, h1, h3, h5]
  case load t x =>
    refine withT_ok (Q := OpOk P C.G ρ h w _) trivial fun a ha => with1_ok (Q := OpOk P C.G ρ h w _) trivial fun v hv => ?_
    obtain ⟨h1, h2⟩ := opd hv
    refine OpOk.of_eq ?_ (evLoad_ok (P := P) s (hT _ _ ha) v).op
    simp only [execOp, h1]
  case store t x v =>
    refine withT_ok (Q := OpOk P C.G ρ h w _) trivial fun a ha => with2_ok (Q := OpOk P C.G ρ h w _) trivial fun pv vv hp hv => ?_
    obtain ⟨h1, _⟩ := opd hp; obtain ⟨h3, h4⟩ := opd hv
    refine OpOk.of_eq ?_ (evStore_ok (P := P) s (hT _ _ ha) pv vv h4).op
    simp only [execOp, h1, h3]
  case nilCheck x =>
    refine with1_ok (Q := OpOk P C.G ρ h w _) trivial fun v hv => ?_
    obtain ⟨h1, h2⟩ := opd hv
    exact evNilCheck_ok s h2 rfl h1
  case binOp bop t x y ty3 =>
    refine with2_ok (Q := OpOk P C.G ρ h w _) trivial fun xv yv hx hy => ?_
    obtain ⟨h1, _⟩ := opd hx; obtain ⟨h3, _⟩ := opd hy
    refine R.ofVal_ok s fun v hv => ?_
    obtain ⟨h5, h6⟩ := binV_ok (ρ := ρ) (h := h) (w := w) (ox := x) (oy := y) hC hv
    refine ⟨?_, h6⟩
    show (do pure (Next.value (← (do eqGuard bop t x y (E tmps x) (E tmps y); binOp bop t (E tmps x) (E tmps y)))) : Sem Next).run P w = _
    rw [h1, h3, Sem.run_bind, h5]
    rfl
  case unOp uop t x =>
    refine with1_ok (Q := OpOk P C.G ρ h w _) trivial fun xv hx => ?_
    obtain ⟨h1, _⟩ := opd hx
    refine R.ofVal_ok s fun v hv => ?_
    obtain ⟨h5, h6⟩ := evUn_ok (P := P) (ρ := ρ) (h := h) (w := w) hv
    exact ⟨by simp only [execOp, h1, Sem.run_bind, h5, Result.andThen_ok, Sem.run_pure], h6⟩
  case convert ts td x =>
    refine withT_ok (Q := OpOk P C.G ρ h w _) trivial fun a ha => withT_ok (Q := OpOk P C.G ρ h w _) trivial fun d hd => with1_ok (Q := OpOk P C.G ρ h w _) trivial fun v hv => ?_
    obtain ⟨h1, _⟩ := opd hv
    refine OpOk.of_eq ?_ (evConvert_ok (P := P) hT s (hT _ _ ha) (hT _ _ hd) (x := v)).op
    simp only [execOp, h1]
  case makeFunc fn first caps =>
    refine withL_ok (Q := OpOk P C.G ρ h w _) trivial fun fl hfl => withL_ok (Q := OpOk P C.G ρ h w _) trivial fun cl hcl => ?_
    obtain ⟨h1, _⟩ := evOpds_ok s hTR hTB hfl
    obtain ⟨h3, h4⟩ := evOpds_ok s hTR hTB hcl
    unfold evMakeFunc
    split
    · rename_i f
      refine ⟨ρ, w, ?_, .refl s, h4⟩
      have e1 : first.map (E tmps) = #[] := by apply Array.ext'; rw [Array.toList_map, h1]; rfl
      have e2 : caps.map (E tmps) = (concL ρ cl).toArray := by apply Array.ext'; rw [Array.toList_map, h3]
      simp [execOp, Instr.makeFunc, e1, e2, conc]
    · trivial
  case makeMap t r =>
    show OpOk P C.G ρ h w _ (optOpd C.G T r fun r => evMakeMap C.ty t r h)
    refine optOpd_ok (Q := OpOk P C.G ρ h w _) s hTR hTB trivial fun v hv _ => ?_
    unfold evMakeMap
    split
    · refine (newM_ok (P := P) s (x := Instr.makeMap t (r.map (E tmps))) ?_).op
      rw [hv]
      simp [Instr.makeMap]
    · rename_i k m
      refine withT_ok (Q := OpOk P C.G ρ h w _) trivial fun a ha => ?_
      split
      · rename_i kt et hd
        refine (newM_ok (P := P) s (x := Instr.makeMap t (r.map (E tmps))) ?_).op
        rw [hv]
        simp [Instr.makeMap, conc, (hT _ _ ha).map w hd, asInt, asIntOf]
      · trivial
    · trivial
  case makeSlice t l c =>
    refine withT_ok (Q := OpOk P C.G ρ h w _) trivial fun a ha => with2_ok (Q := OpOk P C.G ρ h w _) trivial fun lv cv hl hc => ?_
    obtain ⟨h1, _⟩ := opd hl; obtain ⟨h3, _⟩ := opd hc
    refine OpOk.of_eq ?_ (evMakeSlice_ok (P := P) hT s (hT _ _ ha) lv cv).op
    simp only [execOp, h1, h3]
  case slice t x lo hi mx =>
    refine withT_ok (Q := OpOk P C.G ρ h w _) trivial fun a ha => with1_ok (Q := OpOk P C.G ρ h w _) trivial fun v hv => optOpd_ok (Q := OpOk P C.G ρ h w _) s hTR hTB trivial fun l hl _ =>
      optOpd_ok (Q := OpOk P C.G ρ h w _) s hTR hTB trivial fun hh hhh _ => optOpd_ok (Q := OpOk P C.G ρ h w _) s hTR hTB trivial fun m hm _ => ?_
    obtain ⟨h1, h2⟩ := opd hv
    refine OpOk.of_eq ?_ (evSlice_ok (P := P) hT s (hT _ _ ha) h2 l hh m).op
    simp only [execOp, h1, hl, hhh, hm]
  case fieldAddr t x f =>
    refine withT_ok (Q := OpOk P C.G ρ h w _) trivial fun a ha => with1_ok (Q := OpOk P C.G ρ h w _) trivial fun v hv => ?_
    obtain ⟨h1, h2⟩ := opd hv
    refine OpOk.of_eq ?_ (evFieldAddr_ok (P := P) hT s (hT _ _ ha) h2 f).op
    simp only [execOp, h1]
  case field t x f =>
    refine withT_ok (Q := OpOk P C.G ρ h w _) trivial fun a ha => with1_ok (Q := OpOk P C.G ρ h w _) trivial fun v hv => ?_
    obtain ⟨h1, h2⟩ := opd hv
    refine OpOk.of_eq ?_ (evField_ok (P := P) hT s (hT _ _ ha) h2 f).op
    simp only [execOp, h1]
  case indexAddr t x i =>
    refine withT_ok (Q := OpOk P C.G ρ h w _) trivial fun a ha => with2_ok (Q := OpOk P C.G ρ h w _) trivial fun xv iv hx hi => ?_
    obtain ⟨h1, h2⟩ := opd hx; obtain ⟨h3, _⟩ := opd hi
    refine OpOk.of_eq ?_ (evIndexAddr_ok (P := P) hT s (hT _ _ ha) (i := iv) h2).op
    simp only [execOp, h1, h3]
  case index t x i =>
    refine withT_ok (Q := OpOk P C.G ρ h w _) trivial fun a ha => with2_ok (Q := OpOk P C.G ρ h w _) trivial fun xv iv hx hi => ?_
    obtain ⟨h1, h2⟩ := opd hx; obtain ⟨h3, _⟩ := opd hi
    refine OpOk.of_eq ?_ (evIndex_ok (P := P) hT s (hT _ _ ha) (i := iv) h2).op
    simp only [execOp, h1, h3]
  case lookup t x k ok =>
    refine withT_ok (Q := OpOk P C.G ρ h w _) trivial fun a ha => with2_ok (Q := OpOk P C.G ρ h w _) trivial fun xv kv hx hk => ?_
    obtain ⟨h1, _⟩ := opd hx; obtain ⟨h3, _⟩ := opd hk
    refine OpOk.of_eq ?_ (evLookup_ok (P := P) hT s (hT _ _ ha) xv kv ok).op
    simp only [execOp, h1, h3]
  case range t x =>
    refine withT_ok (Q := OpOk P C.G ρ h w _) trivial fun a ha => with1_ok (Q := OpOk P C.G ρ h w _) trivial fun v hv => ?_
    obtain ⟨h1, h2⟩ := opd hv
    refine OpOk.of_eq ?_ (evRange_ok (P := P) s (hT _ _ ha) h2).op
    simp only [execOp, h1]
  case next it st =>
    refine with1_ok (Q := OpOk P C.G ρ h w _) trivial fun v hv => ?_
    obtain ⟨h1, _⟩ := opd hv
    refine OpOk.of_eq ?_ (evNext_ok (P := P) s v st ty2).op
    simp only [execOp, h1]
  case entry it =>
    refine with1_ok (Q := OpOk P C.G ρ h w _) trivial fun v hv => ?_
    obtain ⟨h1, _⟩ := opd hv
    refine OpOk.of_eq ?_ (evEntry_ok (P := P) s v).op
    simp only [execOp, h1]
  case extract x i =>
    refine with1_ok (Q := OpOk P C.G ρ h w _) trivial fun xv hx => ?_
    obtain ⟨h1, h2⟩ := opd hx
    refine R.ofVal_ok s fun v hv => ?_
    unfold evExtract at hv
    split at hv
    · rename_i l
      rw [nth_eq] at hv
      exact ⟨by simp [execOp, h1, conc, Instr.extract, concL_get, hv], all_get (p := fun b => Nat.blt b h.next) (l := l) h2 hv⟩
    · cases hv
  case call c => exact evCall_ok hC s hTR hTB c ty2
  all_goals trivial
end
end Go.Ev
