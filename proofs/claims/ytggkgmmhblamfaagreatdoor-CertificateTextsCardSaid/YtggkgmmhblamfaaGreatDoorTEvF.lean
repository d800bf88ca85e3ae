/- The evaluator, the fast path: an operation looks at its operands alone. -/
import Derived.Test.YtggkgmmhblamfaaGreatDoorTEvA
import Derived.Test.YtggkgmmhblamfaaGreatDoorTEvG
import Derived.Test.YtggkgmmhblamfaaGreatDoorTEvV
import Derived.Below
import Derived.KernelRfl
set_option linter.all false
namespace Go.Ev
section
variable {G : Nat} {T T' : PT AV}
theorem evOpds_congr : ∀ {l : List Operand}, (∀ x ∈ l, evOpd G T x = evOpd G T' x) → evOpds G T l = evOpds G T' l
  | [], _ => rfl
  | o :: l, h => by
    show oe none (evOpd G T o) (fun v => oe none (evOpds G T l) fun vs => some (v :: vs)) = oe none (evOpd G T' o) (fun v => oe none (evOpds G T' l) fun vs => some (v :: vs))
    rw [h o List.mem_cons_self, evOpds_congr fun x hx => h x (List.mem_cons_of_mem _ hx)]
theorem evParts_congr : ∀ {l : List (Nat × Operand)}, (∀ x ∈ l, evOpd G T x.2 = evOpd G T' x.2) → evParts G T l = evParts G T' l
  | [], _ => rfl
  | o :: l, h => by
    show oe none (evOpd G T o.2) (fun v => oe none (evParts G T l) fun vs => some ((o.1, v) :: vs)) = oe none (evOpd G T' o.2) (fun v => oe none (evParts G T' l) fun vs => some ((o.1, v) :: vs))
    rw [h o List.mem_cons_self, evParts_congr fun x hx => h x (List.mem_cons_of_mem _ hx)]
theorem optOpd_congr {o : Option Operand} {k : Option AV → R} (h : ∀ x, o = some x → evOpd G T x = evOpd G T' x) : optOpd G T o k = optOpd G T' o k := by
  cases o with
  | none => rfl
  | some x =>
    show Option.rec (motive := fun _ => R) .fail (fun v => k (some v)) (evOpd G T x) = Option.rec (motive := fun _ => R) .fail (fun v => k (some v)) (evOpd G T' x)
    rw [h x rfl]
end
theorem evOp_congr {C : Ctx} {T T' : PT AV} {h : AH} (op : Op) (e : ∀ x ∈ op.operands, evOpd C.G T x = evOpd C.G T' x) : evOp op C T h = evOp op C T' h := by
  cases op
  case move x => have := e x (by simp [Op.operands]); show R.ofVal h _ = R.ofVal h _; rw [this]
  case assign x => have := e x (by simp [Op.operands]); show R.ofVal h _ = R.ofVal h _; rw [this]
  case pick c a b =>
    have h1 := e c (by simp [Op.operands]); have h2 := e a (by simp [Op.operands]); have h3 := e b (by simp [Op.operands])
    show oPick c a b C T h = oPick c a b C T' h
    unfold oPick; rw [h1, h2, h3]
  case build t ps =>
    show oBuild t ps C T h = oBuild t ps C T' h
    unfold oBuild; rw [evParts_congr fun x hx => e x.2 (by simp only [Op.operands, List.mem_toArray]; exact List.mem_map.2 ⟨x, hx, rfl⟩)]
  case buildSlice t n ps =>
    show oBuildSlice t n ps C T h = oBuildSlice t n ps C T' h
    unfold oBuildSlice; rw [evParts_congr fun x hx => e x.2 (by simp only [Op.operands, List.mem_toArray]; exact List.mem_map.2 ⟨x, hx, rfl⟩)]
  case box t x => have h1 := e x (by simp [Op.operands]); show oBox t x C T h = oBox t x C T' h; unfold oBox; rw [h1]
  case insert t m k v => have h1 := e m (by simp [Op.operands]); have h2 := e k (by simp [Op.operands]); have h3 := e v (by simp [Op.operands]); show oUpdate t m k v C T h = oUpdate t m k v C T' h; unfold oUpdate; rw [h1, h2, h3]
  case mapUpdate t m k v => have h1 := e m (by simp [Op.operands]); have h2 := e k (by simp [Op.operands]); have h3 := e v (by simp [Op.operands]); show oUpdate t m k v C T h = oUpdate t m k v C T' h; unfold oUpdate; rw [h1, h2, h3]
  case load t x => have h1 := e x (by simp [Op.operands]); show oLoad t x C T h = oLoad t x C T' h; unfold oLoad; rw [h1]
  case store t x v => have h1 := e x (by simp [Op.operands]); have h2 := e v (by simp [Op.operands]); show oStore t x v C T h = oStore t x v C T' h; unfold oStore; rw [h1, h2]
  case nilCheck x => have h1 := e x (by simp [Op.operands]); show oNilCheck x C T h = oNilCheck x C T' h; unfold oNilCheck; rw [h1]
  case binOp op t x y t2 => have h1 := e x (by simp [Op.operands]); have h2 := e y (by simp [Op.operands]); show oBin op t x y t2 C T h = oBin op t x y t2 C T' h; unfold oBin; rw [h1, h2]
  case unOp op t x => have h1 := e x (by simp [Op.operands]); show oUn op t x C T h = oUn op t x C T' h; unfold oUn; rw [h1]
  case convert s d x => have h1 := e x (by simp [Op.operands]); show oConvert s d x C T h = oConvert s d x C T' h; unfold oConvert; rw [h1]
  case makeFunc fn first caps =>
    show oMakeFunc fn first caps C T h = oMakeFunc fn first caps C T' h
    unfold oMakeFunc
    rw [evOpds_congr (l := first.toList) fun x hx => e x (by simp only [Op.operands, Array.mem_append]; exact .inl (Array.mem_toList_iff.1 hx)), evOpds_congr (l := caps.toList) fun x hx => e x (by simp only [Op.operands, Array.mem_append]; exact .inr (Array.mem_toList_iff.1 hx))]
  case makeMap t r =>
    show oMakeMap t r C T h = oMakeMap t r C T' h
    unfold oMakeMap
    exact optOpd_congr fun x hx => e x (by simp [Op.operands, hx])
  case makeSlice t l c => have h1 := e l (by simp [Op.operands]); have h2 := e c (by simp [Op.operands]); show oMakeSlice t l c C T h = oMakeSlice t l c C T' h; unfold oMakeSlice; rw [h1, h2]
  case slice t x lo hi mx =>
    show oSlice t x lo hi mx C T h = oSlice t x lo hi mx C T' h
    unfold oSlice
    rw [e x (by simp [Op.operands])]
    congr 1; funext a; congr 1; funext x
    rw [optOpd_congr (T' := T') fun x hx => e x (by simp [Op.operands, hx])]
    congr 1; funext lo
    rw [optOpd_congr (T' := T') fun x hx => e x (by simp [Op.operands, hx])]
    congr 1; funext hi
    exact optOpd_congr fun x hx => e x (by simp [Op.operands, hx])
  case fieldAddr t x f => have h1 := e x (by simp [Op.operands]); show oFieldAddr t x f C T h = oFieldAddr t x f C T' h; unfold oFieldAddr; rw [h1]
  case field t x f => have h1 := e x (by simp [Op.operands]); show oField t x f C T h = oField t x f C T' h; unfold oField; rw [h1]
  case range t x => have h1 := e x (by simp [Op.operands]); show oRange t x C T h = oRange t x C T' h; unfold oRange; rw [h1]
  case next it s => have h1 := e it (by simp [Op.operands]); show oNext it s C T h = oNext it s C T' h; unfold oNext; rw [h1]
  case entry it => have h1 := e it (by simp [Op.operands]); show oEntry it C T h = oEntry it C T' h; unfold oEntry; rw [h1]
  case extract x i => have h1 := e x (by simp [Op.operands]); show oExtract x i C T h = oExtract x i C T' h; unfold oExtract; rw [h1]
  case indexAddr t x i => have h1 := e x (by simp [Op.operands]); have h2 := e i (by simp [Op.operands]); show oIndexAddr t x i C T h = oIndexAddr t x i C T' h; unfold oIndexAddr; rw [h1, h2]
  case index t x i => have h1 := e x (by simp [Op.operands]); have h2 := e i (by simp [Op.operands]); show oIndex t x i C T h = oIndex t x i C T' h; unfold oIndex; rw [h1, h2]
  case lookup t x k ok => have h1 := e x (by simp [Op.operands]); have h2 := e k (by simp [Op.operands]); show oLookup t x k ok C T h = oLookup t x k ok C T' h; unfold oLookup; rw [h1, h2]
  case call c =>
    show evCall C T h c = evCall C T' h c
    unfold evCall
    rw [evOpds_congr (l := c.args.toList) fun x hx => e x (by simp only [Op.operands, Call.operands]; cases c.callee <;> simp [Array.mem_toList_iff.1 hx])]
    cases hc : c.callee with
    | value f =>
      have h1 := e f (by simp [Op.operands, Call.operands, hc])
      show (withL (evOpds C.G T' c.args.toList) fun args => with1 (evOpd C.G T f) fun f => evCallee C f args h) = withL (evOpds C.G T' c.args.toList) fun args => with1 (evOpd C.G T' f) fun f => evCallee C f args h
      rw [h1]
    | invoke _ _ => rfl
    | builtin _ => rfl
  all_goals rfl
end Go.Ev
namespace Go.Ev
namespace Res
variable {α β : Type}
theorem append_ne_one {x y : Res β} {b : β} : append x y ≠ .one b := by
  cases x <;> cases y <;> simp [append]
theorem bindL_ne_one {f : α → Res β} {b : β} : ∀ {l : List α}, bindL f l ≠ .one b
  | [] => by intro h; cases h
  | a :: l => append_ne_one
theorem bind_one {x : Res α} {f : α → Res β} {b : β} (h : bind x f = .one b) : ∃ a, x = .one a ∧ f a = .one b := by
  cases x with
  | fail => cases h
  | one a => exact ⟨a, rfl, h⟩
  | many l => exact absurd h bindL_ne_one
end Res
end Go.Ev
namespace Go.Ev
section
variable {C : Ctx} {T : PT AV}
def PureR (f : AH → R) : Prop := (∀ h, f h = .fail) ∨ ∃ v, ∀ h, f h = .val v h
theorem pure_ofVal (o : Option AV) : PureR fun h => R.ofVal h o := by
  cases o with
  | none => exact .inl fun _ => rfl
  | some v => exact .inr ⟨v, fun _ => rfl⟩
theorem pure_with1 {o : Option AV} {k : AV → AH → R} (hk : ∀ v, PureR (k v)) : PureR fun h => with1 o fun v => k v h := by
  cases o with
  | none => exact .inl fun _ => rfl
  | some v => exact hk v
theorem pure_with2 {o p : Option AV} {k : AV → AV → AH → R} (hk : ∀ u v, PureR (k u v)) : PureR fun h => with2 o p fun u v => k u v h := by
  cases o with
  | none => exact .inl fun _ => rfl
  | some u => cases p with
    | none => exact .inl fun _ => rfl
    | some v => exact hk u v
theorem pure_withT {ty : PT ATy} {t : Nat} {k : ATy → AH → R} (hk : ∀ a, PureR (k a)) : PureR fun h => withT ty t fun a => k a h := by
  unfold withT
  cases ty.get t with
  | none => exact .inl fun _ => rfl
  | some a => exact hk a
theorem pure_op {op : Op} (hk : kindOf C.ty op = 0) : PureR fun h => evOp op C T h := by
  cases op
  case move x => exact pure_ofVal _
  case assign x => exact pure_ofVal _
  case pick c a b =>
    refine pure_with1 fun v => pure_with2 fun x y => ?_
    unfold evPick
    rw [show (fun h => v.boolE .fail fun b => cnd b (R.val x h) (.val y h)) = fun h => (match v with | .bool b => cnd b (R.val x h) (.val y h) | _ => .fail) from by funext h; rw [AV.boolE_eq]; cases v <;> rfl]
    cases v <;> try exact .inl fun _ => rfl
    rename_i b
    cases b
    · exact .inr ⟨y, fun _ => rfl⟩
    · exact .inr ⟨x, fun _ => rfl⟩
  case binOp => exact pure_with2 fun _ _ => pure_ofVal _
  case unOp => exact pure_with1 fun _ => pure_ofVal _
  case extract => exact pure_with1 fun _ => pure_ofVal _
  case nilCheck x =>
    refine pure_with1 fun v => ?_
    cases v <;> first | exact .inl fun _ => rfl | exact .inr ⟨_, fun _ => rfl⟩
  case makeFunc fn first caps =>
    show PureR fun h => withL (evOpds C.G T first.toList) fun first => withL (evOpds C.G T caps.toList) fun caps => evMakeFunc fn first caps h
    cases evOpds C.G T first.toList with
    | none => exact .inl fun _ => rfl
    | some l =>
      cases evOpds C.G T caps.toList with
      | none => exact .inl fun _ => rfl
      | some m =>
        show PureR fun h => evMakeFunc fn l m h
        cases fn <;> cases l <;> first | exact .inl fun _ => rfl | exact .inr ⟨_, fun _ => rfl⟩
  case field t x f =>
    refine pure_withT fun a => pure_with1 fun v => ?_
    unfold evField
    cases fieldOf C.ty a f with
    | none => exact .inl fun _ => rfl
    | some y =>
      cases v <;> first | exact .inl fun _ => rfl | exact pure_ofVal _
  case fieldAddr t x f =>
    refine pure_withT fun a => pure_with1 fun v => ?_
    unfold evFieldAddr
    cases fieldOf C.ty a f with
    | none => exact .inl fun _ => rfl
    | some y =>
      show PureR fun h => cnd (Nat.beq y.2.size 0) .fail (v.ptrE .fail fun b o => forceN (Nat.add o y.1) fun o => .val (.ptr b o) h)
      cases Nat.beq y.2.size 0 with
      | true => exact .inl fun _ => rfl
      | false =>
        cases v <;> first | exact .inl fun _ => rfl | (rename_i b o; exact .inr ⟨.ptr b (Nat.add o y.1), fun h => forceN_eq (Nat.add o y.1) fun o => R.val (.ptr b o) h⟩)
  case indexAddr t x i =>
    refine pure_withT fun a => pure_with2 fun x i => ?_
    unfold evIndexAddr
    cases elemOf C.ty a with
    | none => exact .inl fun _ => rfl
    | some e =>
      obtain ⟨e1, e2⟩ := e
      cases e1 with
      | none =>
        show PureR fun h => x.sliceE .fail fun b off n => oe .fail (idx i n) fun i => forceN (Nat.add off (Nat.mul i e2.size)) fun o => .val (.ptr b o) h
        cases x <;> first | exact .inl fun _ => rfl | (
          rename_i b off n c
          cases hi : idx i n with
          | none => exact .inl fun _ => by show oe _ (idx i n) _ = _; rw [hi]; rfl
          | some i' => exact .inr ⟨.ptr b (Nat.add off (Nat.mul i' e2.size)), fun h => by
              show oe _ (idx i n) _ = _; rw [hi]
              exact forceN_eq _ fun o => R.val (.ptr b o) h⟩)
      | some m =>
        show PureR fun h => x.ptrE .fail fun b off => oe .fail (idx i m) fun i => forceN (Nat.add off (Nat.mul i e2.size)) fun o => .val (.ptr b o) h
        cases x <;> first | exact .inl fun _ => rfl | (
          rename_i b off
          cases hi : idx i m with
          | none => exact .inl fun _ => rfl
          | some i' => exact .inr ⟨.ptr b (Nat.add off (Nat.mul i' e2.size)), fun h => 
              forceN_eq _ fun o => R.val (.ptr b o) h⟩)
  case index t x i =>
    refine pure_withT fun a => pure_with2 fun x i => ?_
    unfold evIndex
    cases a.d <;> try exact .inl fun _ => rfl
    · cases x <;> try exact .inl fun _ => rfl
      cases i <;> try exact .inl fun _ => rfl
      rename_i s k m
      cases m <;> try exact .inl fun _ => rfl
      rename_i m
      show PureR fun h => (match nth s m with
        | some c => forceN c.toNat fun n => .val (.int .u8 (Int.ofNat n)) h
        | none => .fail)
      cases nth s m with
      | none => exact .inl fun _ => rfl
      | some c => exact .inr ⟨.int .u8 (Int.ofNat c.toNat), fun h => forceN_eq _ fun n => R.val (.int .u8 (Int.ofNat n)) h⟩
    · rename_i n e
      show PureR fun h => (match C.ty.get e with
        | some ae => (match x with
          | .agg l => (match idx i n with
            | some i => R.ofVal h (loadAt ae l (Nat.mul i ae.size))
            | none => .fail)
          | _ => .fail)
        | none => .fail)
      cases C.ty.get e with
      | none => exact .inl fun _ => rfl
      | some ae =>
        cases x <;> try exact .inl fun _ => rfl
        cases idx i n with
        | none => exact .inl fun _ => rfl
        | some j => exact pure_ofVal _
  case convert a d x =>
    have hk : kindConv C.ty d = 0 := hk
    unfold kindConv at hk
    split at hk
    · split at hk <;> cases hk
    · cases hk
  case call c =>
    have hk : kindCall c = 0 := hk
    unfold kindCall at hk
    split at hk <;> cases hk
  all_goals (simp [kindOf] at hk)

/-- The blocks stay. -/
def KeepR (h : AH) (r : R) : Prop :=
  match r with
  | .fail | .alts _ => True
  | .val _ h' => h' = h
  | _ => False
variable {h : AH}
theorem keep_ofVal (o : Option AV) : KeepR h (R.ofVal h o) := by
  cases o with
  | none => trivial
  | some v => exact rfl
theorem keep_with1 {o : Option AV} {k : AV → R} (hk : ∀ v, KeepR h (k v)) : KeepR h (with1 o k) := by
  cases o with
  | none => trivial
  | some v => exact hk v
theorem keep_with2 {o p : Option AV} {k : AV → AV → R} (hk : ∀ u v, KeepR h (k u v)) : KeepR h (with2 o p k) := by
  cases o with
  | none => trivial
  | some u => cases p with
    | none => trivial
    | some v => exact hk u v
theorem keep_withT {ty : PT ATy} {t : Nat} {k : ATy → R} (hk : ∀ a, ty.get t = some a → KeepR h (k a)) : KeepR h (withT ty t k) := by
  unfold withT
  cases e : ty.get t with
  | none => trivial
  | some a => exact hk a e
theorem keep_opt {G : Nat} {T : PT AV} {o : Option Operand} {k : Option AV → R} (hk : ∀ v, KeepR h (k v)) : KeepR h (optOpd G T o k) := by
  unfold optOpd
  cases o with
  | none => exact hk _
  | some x =>
    show KeepR h (Option.rec (motive := fun _ => R) .fail (fun v => k (some v)) (evOpd G T x))
    cases evOpd G T x with
    | none => trivial
    | some v => exact hk _
theorem keep_open {kn b off n es : Nat} {lo hi : Option AV} : KeepR h (sliceOpen kn b off n es lo hi h) := by
  unfold sliceOpen
  split
  · split
    · simp only [cnd_eq, forceN_eq]
      split
      · split
        · exact rfl
        · trivial
      · trivial
    · trivial
  · trivial
theorem keep_slice {ty : PT ATy} {a : ATy} {x : AV} {lo hi mx : Option AV} : KeepR h (evSlice ty a x lo hi mx h) := by
  unfold evSlice
  repeat' first
    | exact keep_ofVal _
    | exact keep_open
    | trivial
    | exact rfl
    | (rw [cnd_eq])
    | split
theorem keep_lookup {ty : PT ATy} {a : ATy} {x k : AV} {ok : Bool} : KeepR h (evLookup ty a x k ok h) := by
  unfold evLookup
  repeat' first
    | trivial
    | exact rfl
    | (rw [cnd_eq])
    | split
theorem keep_load {a : ATy} {v : AV} : KeepR h (evLoad a v h) := by
  unfold evLoad
  rw [AV.ptrE_eq]
  split
  · unfold cellsAt
    rw [oe_eq]
    split
    · rw [ABlock.cellsE_eq]
      split
      · exact keep_ofVal _
      · trivial
    · trivial
  · trivial
theorem keep_sliceData {ty : PT ATy} {a : ATy} {x : AV} : KeepR h (evSliceData ty a x h) := by
  unfold evSliceData
  repeat' first
    | trivial
    | exact rfl
    | (rw [cnd_eq])
    | split
theorem keep_op {op : Op} (hk : kindOf C.ty op = 1) : KeepR h (evOp op C T h) := by
  cases op
  case load t x => exact keep_withT fun a _ => keep_with1 fun p => keep_load
  case lookup t x k ok => exact keep_withT fun a _ => keep_with2 fun x k => keep_lookup
  case slice t x lo hi mx => exact keep_withT fun a _ => keep_with1 fun x => keep_opt fun lo => keep_opt fun hi => keep_opt fun mx => keep_slice
  case convert s d x =>
    refine keep_withT fun s _ => keep_withT fun a ha => keep_with1 fun x => ?_
    have hk : kindConv C.ty d = 1 := hk
    unfold kindConv at hk
    rw [ha] at hk
    unfold evConvert
    simp only at hk
    split at hk
    · rename_i k e
      rw [e]
      cases x <;> first | trivial | exact keep_ofVal _
    · cases hk
  case call c =>
    have hk : kindCall c = 1 := hk
    unfold kindCall at hk
    show KeepR h (evCall C T h c)
    unfold evCall
    cases evOpds C.G T c.args.toList with
    | none => trivial
    | some args =>
      show KeepR h (Callee.rec (motive := fun _ => R) (fun f => with1 (evOpd C.G T f) fun f => evCallee C f args h) (fun _ _ => .fail)
        (fun b => List.rec (motive := fun _ => R) .fail (fun t ts _ => withT C.ty t fun a => evBuiltin b C.ty a ts args h) c.argTypes.toList) c.callee)
      have one : ∀ {k : PT ATy → ATy → AV → AH → R} {ts : List TypeId} {a : ATy}, (∀ x, KeepR h (k C.ty a x h)) → KeepR h (arg1 k C.ty a ts args h) := fun {k ts a} hk => by
        cases args with
        | nil => trivial
        | cons x l => cases l with
          | nil => exact hk x
          | cons => trivial
      have row : ∀ {m : Bool} {ts : List TypeId} {a : ATy}, KeepR h (argL m C.ty a ts args h) := fun {m ts a} => by
        cases args with
        | nil => trivial
        | cons x l => exact keep_ofVal _
      split at hk <;> (try (cases hk)) <;> (rename_i e; rw [e]; simp only []; cases c.argTypes.toList with
        | nil => trivial
        | cons t ts => refine keep_withT fun a _ => ?_; first | exact one (k := evSliceData) (ts := ts) fun x => keep_sliceData | exact one (k := evLenR) (ts := ts) fun x => keep_ofVal _ | exact one (k := evCapR) (ts := ts) fun x => keep_ofVal _ | (show KeepR h (argL true C.ty a ts args h); exact row) | (show KeepR h (argL false C.ty a ts args h); exact row))
  all_goals (simp [kindOf] at hk)
end
end Go.Ev
namespace Go.Ev
section
variable {C : Ctx} {ih : Ev} {ops : List Oper} {n : Nat}
def Eqv (T S : PT AV) : Prop := ∀ s, T.get s = S.get s
noncomputable def putD (d : Option Nat) (v : AV) (T : PT AV) : PT AV :=
  match d with
  | some d => PT.put (some v) T d
  | none => T
theorem evOpd_eqv {G : Nat} {T S : PT AV} (e : Eqv T S) (o : Operand) : evOpd G T o = evOpd G S o := by
  cases o <;> first | rfl | exact e _
theorem guardOf_congr {T S : PT AV} {g : Nat × Bool} (e : ∀ x d, ops[g.1]? = some x → x.dst = some d → T.get d = S.get d) : guardOf ops T g = guardOf ops S g := by
  unfold guardOf
  rw [nth_eq]
  cases h : ops[g.1]? with
  | none => rfl
  | some x =>
    cases hd : x.dst with
    | none => simp only [hd]
    | some d => simp only [hd]; rw [e x d h hd]
theorem wanted_congr {T S : PT AV} {g : Option (Nat × Bool)} (e : ∀ g' x d, g = some g' → ops[g'.1]? = some x → x.dst = some d → T.get d = S.get d) : wanted ops T g = wanted ops S g := by
  cases g with
  | none => rfl
  | some g => exact guardOf_congr fun x d => e g x d rfl
theorem evOne_congr {o : Oper} {T S : PT AV} {h : AH} (e1 : ∀ x ∈ o.op.operands, evOpd C.G T x = evOpd C.G S x) (e2 : wanted ops T o.guard = wanted ops S o.guard) : evOne C ih ops o T h = evOne C ih ops o S h := by
  unfold evOne
  rw [e2, evOp_congr o.op e1]
theorem evOne_eqv {o : Oper} {T S : PT AV} {h : AH} (e : Eqv T S) : evOne C ih ops o T h = evOne C ih ops o S h :=
  evOne_congr (fun x _ => evOpd_eqv e x) (wanted_congr fun _ _ d _ _ _ => e d)
theorem readsOpd_spec {d : Nat} : ∀ {l : List Operand}, readsOpd d l = false → ∀ t, Operand.tmp t ∈ l → t ≠ d
  | [], _, t, ht => by simp at ht
  | o :: l, h, t, ht => by
    rcases List.mem_cons.1 ht with rfl | ht
    · simp only [readsOpd, Bool.or_eq_false_iff] at h
      intro q
      subst q
      simp [beq_nat] at h
    · refine readsOpd_spec ?_ t ht
      cases o <;> simp only [readsOpd, Bool.or_eq_false_iff] at h <;> first | exact h.2 | exact h
theorem evOne_put {o x : Oper} {v : AV} {T : PT AV} {h : AH} (hr : readsDst ops o x = false) : evOne C ih ops o (putD x.dst v T) h = evOne C ih ops o T h := by
  unfold readsDst at hr
  cases hd : x.dst with
  | none => rfl
  | some d =>
    rw [hd] at hr
    simp only [readsSlot, Bool.or_eq_false_iff] at hr
    obtain ⟨h1, h2⟩ := hr
    refine evOne_congr (fun y hy => ?_) (wanted_congr fun g y e hg hy he => ?_)
    · cases y <;> try rfl
      rename_i t
      have : t ≠ d := readsOpd_spec h1 t (Array.mem_toList_iff.2 hy)
      show (PT.put (some v) T d).get t = T.get t
      rw [PT.get_put, if_neg this]
    · rw [hg] at h2
      simp only [nth_eq, hy, he] at h2
      have : e ≠ d := by
        intro q; subst q; simp [beq_nat] at h2
      show (PT.put (some v) T d).get e = T.get e
      rw [PT.get_put, if_neg this]
theorem putD_eqv {d : Option Nat} {v : AV} {T S : PT AV} (e : Eqv T S) : Eqv (putD d v T) (putD d v S) := by
  cases d with
  | none => exact e
  | some d =>
    intro s
    show (PT.put (some v) T d).get s = (PT.put (some v) S d).get s
    rw [PT.get_put, PT.get_put, e s]
theorem putD_comm {x y : Oper} {u v : AV} {T : PT AV} (hs : sameDst x y = false) : Eqv (putD x.dst u (putD y.dst v T)) (putD y.dst v (putD x.dst u T)) := by
  unfold sameDst at hs
  cases hx : x.dst with
  | none => intro s; rfl
  | some a =>
    cases hy : y.dst with
    | none => intro s; rfl
    | some b =>
      rw [hx, hy] at hs
      have hab : a ≠ b := by
        intro q; subst q; simp [beq_nat] at hs
      intro s
      show (PT.put (some u) (PT.put (some v) T b) a).get s = (PT.put (some v) (PT.put (some u) T a) b).get s
      simp only [PT.get_put]
      by_cases h1 : s = a
      · by_cases h2 : s = b
        · exact absurd (h1.symm.trans h2) hab
        · rw [if_pos h1, if_neg h2, if_pos h1]
      · rw [if_neg h1]
        by_cases h2 : s = b
        · rw [if_pos h2, if_pos h2]
        · rw [if_neg h2, if_neg h2, if_neg h1]

inductive Runs (C : Ctx) (ih : Ev) (ops : List Oper) (n : Nat) : List Nat → PT AV → AH → PT AV → AH → Prop
  | nil {T T' : PT AV} {h : AH} (e : Eqv T T') : Runs C ih ops n [] T h T' h
  | cons {i : Nat} {R : List Nat} {o : Oper} {r : V} {T T' : PT AV} {h h' : AH} (ho : ops[i]? = some o) (hr : evOne C ih ops o T h = some r) (hd : ∀ d, o.dst = some d → d < n)
      (hn : Runs C ih ops n R (putD o.dst r.v T) r.h T' h') : Runs C ih ops n (i :: R) T h T' h'

theorem Runs.congr {R : List Nat} {T T' : PT AV} {h h' : AH} (r : Runs C ih ops n R T h T' h') : ∀ {S : PT AV}, Eqv T S → Runs C ih ops n R S h T' h' := by
  induction r with
  | nil e => intro S q; exact .nil fun s => (q s).symm.trans (e s)
  | cons ho hr hd hn ih' =>
    intro S q
    exact .cons ho (by rw [← evOne_eqv q]; exact hr) hd (ih' (putD_eqv q))

theorem opThen_one {r : R} {k : AV → AH → Res O} {o : O} (h : opThen ih r k = .one o) : ∃ v h', oneRes (opThen ih r fun v h => .one (V.mk v h)) = some ⟨v, h'⟩ ∧ k v h' = .one o := by
  cases r with
  | fail => cases h
  | val v h' => exact ⟨v, h', rfl, h⟩
  | skip h' => exact ⟨.tup [], h', rfl, h⟩
  | call f args h' =>
    obtain ⟨a, h1, h2⟩ := Res.bind_one (show Res.bind (ih.call f args h') (fun r => k r.v r.h) = .one o from h)
    refine ⟨a.v, a.h, ?_, h2⟩
    show oneRes (Res.bind (ih.call f args h') fun r => .one (V.mk r.v r.h)) = _
    rw [h1]; rfl
  | yield l args h' =>
    obtain ⟨a, h1, h2⟩ := Res.bind_one (show Res.bind (evYield ih l args h') (fun r => k r.v r.h) = .one o from h)
    refine ⟨a.v, a.h, ?_, h2⟩
    show oneRes (Res.bind (evYield ih l args h') fun r => .one (V.mk r.v r.h)) = _
    rw [h1]; rfl
  | alts l => exact absurd h Res.bindL_ne_one
theorem putTmp_one {d : Option Nat} {v : AV} {T : PT AV} {k : PT AV → Res O} {o : O} (h : putTmp n d v T k = .one o) : (∀ s, d = some s → s < n) ∧ k (putD d v T) = .one o := by
  cases d with
  | none => exact ⟨fun s hs => (by cases hs), h⟩
  | some d =>
    change cnd (Nat.blt d n) (PT.force (PT.put (some v) T d) k) .fail = .one o at h
    rw [cnd_eq, PT.force_eq] at h
    split at h
    · rename_i hd
      exact ⟨fun s hs => (by cases hs; exact blt_iff.1 hd), h⟩
    · cases h
theorem evSeq_runs {df : List Nat} {o : O} : ∀ (l : List Oper) (i : Nat), ops.drop i = l → ∀ {T : PT AV} {h : AH}, evSeq C ih n ops df l T h = .one o →
    o.x = .norm ∧ o.df = df ∧ Runs C ih ops n (List.range' i l.length) T h o.T o.h
  | [], i, _, T, h, e => by cases e; exact ⟨rfl, rfl, .nil fun _ => rfl⟩
  | a :: l, i, hl, T, h, e => by
    have ho : ops[i]? = some a := by
      have := congrArg (·[0]?) hl
      simpa using this
    have hl' : ops.drop (i + 1) = l := by
      have := congrArg (List.drop 1) hl
      simpa [List.drop_drop] using this
    change evStep C ih n ops a (fun T h => evSeq C ih n ops df l T h) T h = .one o at e
    unfold evStep at e
    have step : ∀ {r : V}, evOne C ih ops a T h = some r → putTmp n a.dst r.v T (fun T => evSeq C ih n ops df l T r.h) = .one o → o.x = .norm ∧ o.df = df ∧ Runs C ih ops n (List.range' i (a :: l).length) T h o.T o.h := by
      intro r h1 h2
      obtain ⟨h3, h4⟩ := putTmp_one h2
      obtain ⟨h5, h6, h7⟩ := evSeq_runs l (i + 1) hl' h4
      exact ⟨h5, h6, .cons ho h1 h3 h7⟩
    cases hw : wanted ops T a.guard with
    | none => rw [hw] at e; cases e
    | some w =>
      rw [hw] at e
      cases w with
      | false =>
        refine step (r := ⟨.tup [], h⟩) ?_ e
        unfold evOne
        rw [hw]
      | true =>
        obtain ⟨v, h', h1, h2⟩ := opThen_one (show opThen ih (evOp a.op C T h) (fun v h => putTmp n a.dst v T fun T => evSeq C ih n ops df l T h) = .one o from e)
        refine step (r := ⟨v, h'⟩) ?_ h2
        unfold evOne
        rw [hw]
        exact h1

theorem one_pure {o : Oper} {T : PT AV} (hk : kindOf C.ty o.op = 0) : (∀ h, evOne C ih ops o T h = none) ∨ ∃ v, ∀ h, evOne C ih ops o T h = some ⟨v, h⟩ := by
  unfold evOne
  cases wanted ops T o.guard with
  | none => exact .inl fun _ => rfl
  | some w =>
    cases w with
    | false => exact .inr ⟨.tup [], fun _ => rfl⟩
    | true =>
      rcases pure_op (C := C) (T := T) hk with q | ⟨v, q⟩
      · refine .inl fun h => ?_
        show oneRes (opThen ih (evOp o.op C T h) _) = none
        rw [show evOp o.op C T h = .fail from q h]; rfl
      · refine .inr ⟨v, fun h => ?_⟩
        show oneRes (opThen ih (evOp o.op C T h) _) = _
        rw [show evOp o.op C T h = .val v h from q h]; rfl
theorem one_keep {o : Oper} {T : PT AV} {h : AH} {r : V} (hk : kindOf C.ty o.op = 1) (hr : evOne C ih ops o T h = some r) : r.h = h := by
  unfold evOne at hr
  cases hw : wanted ops T o.guard with
  | none => rw [hw] at hr; cases hr
  | some w =>
    rw [hw] at hr
    cases w with
    | false => cases hr; rfl
    | true =>
      have key := keep_op (C := C) (T := T) (h := h) hk
      change oneRes (opThen ih (evOp o.op C T h) fun v h => .one (V.mk v h)) = some r at hr
      generalize evOp o.op C T h = x at key hr
      cases x with
      | fail => cases hr
      | val v h' => cases hr; exact key
      | skip => cases key
      | call => cases key
      | yield => cases key
      | alts l =>
        exfalso
        change oneRes (Res.bindL (fun x => .one (V.mk x.1 x.2)) l) = some r at hr
        cases hb : Res.bindL (fun x : AV × AH => Res.one (V.mk x.1 x.2)) l with
        | one a => exact Res.bindL_ne_one hb
        | fail => rw [hb] at hr; cases hr
        | many m => rw [hb] at hr; cases hr
theorem one_comm {x y : Oper} {T : PT AV} {h : AH} {rx ry : V} (hk : (Nat.beq (kindOf C.ty x.op) 0 || Nat.beq (kindOf C.ty y.op) 0 || (Nat.beq (kindOf C.ty x.op) 1 && Nat.beq (kindOf C.ty y.op) 1)) = true)
    (hx : evOne C ih ops x T h = some rx) (hy : evOne C ih ops y T rx.h = some ry) : ∃ h', evOne C ih ops y T h = some ⟨ry.v, h'⟩ ∧ evOne C ih ops x T h' = some ⟨rx.v, ry.h⟩ := by
  simp only [Bool.or_eq_true, Bool.and_eq_true, Nat.beq_eq] at hk
  rcases hk with (hk | hk) | ⟨hk, hk'⟩
  · rcases one_pure (ih := ih) (ops := ops) (T := T) hk with q | ⟨v, q⟩
    · rw [q] at hx; cases hx
    · rw [q] at hx; cases hx
      exact ⟨ry.h, hy, q _⟩
  · rcases one_pure (ih := ih) (ops := ops) (T := T) hk with q | ⟨v, q⟩
    · rw [q] at hy; cases hy
    · rw [q] at hy; cases hy
      exact ⟨h, q _, hx⟩
  · have e1 := one_keep hk hx
    have e2 := one_keep hk' hy
    rw [e1] at hy e2
    refine ⟨h, ?_, ?_⟩
    · rw [hy, ← e2]
    · rw [hx, e2, ← e1]
theorem Runs.swap {i j : Nat} {x y : Oper} {R : List Nat} {T T' : PT AV} {h h' : AH} (hx : ops[i]? = some x) (hy : ops[j]? = some y) (ha : apartOps C.ty ops x y = true) (hs : sameDst x y = false)
    (r : Runs C ih ops n (i :: j :: R) T h T' h') : Runs C ih ops n (j :: i :: R) T h T' h' := by
  simp only [apartOps, Bool.and_eq_true, Bool.not_eq_true'] at ha
  obtain ⟨⟨hxy, hyx⟩, hk⟩ := ha
  cases r with
  | cons ho hr hd hn =>
    rw [hx] at ho; cases ho
    rename_i rx
    cases hn with
    | cons ho' hr' hd' hn' =>
      rw [hy] at ho'; cases ho'
      rename_i ry
      rw [evOne_put hyx] at hr'
      obtain ⟨h1, h2, h3⟩ := one_comm hk hr hr'
      refine .cons hy h2 hd' (.cons hx (r := ⟨rx.v, ry.h⟩) (by rw [evOne_put hxy]; exact h3) hd (hn'.congr ?_))
      intro s
      exact (putD_comm hs s).symm
theorem Runs.front {i : Nat} {B : List Nat} {T' : PT AV} {h' : AH} : ∀ {A : List Nat} {T : PT AV} {h : AH}, (∀ a ∈ A, ∀ x y, ops[a]? = some x → ops[i]? = some y → apartOps C.ty ops x y = true ∧ sameDst x y = false) →
    Runs C ih ops n (A ++ i :: B) T h T' h' → Runs C ih ops n (i :: (A ++ B)) T h T' h'
  | [], T, h, _, r => r
  | a :: A, T, h, ha, r => by
    cases r with
    | cons ho hr hd hn =>
      rename_i x rx
      have h1 := Runs.front (fun a' h' => ha a' (List.mem_cons_of_mem _ h')) hn
      have h2 : Runs C ih ops n (a :: i :: (A ++ B)) T h T' h' := .cons ho hr hd h1
      cases h1 with
      | cons ho' _ _ _ =>
        obtain ⟨h3, h4⟩ := ha a List.mem_cons_self _ _ ho ho'
        exact h2.swap ho ho' h3 h4
end
end Go.Ev
namespace Go.Ev
theorem bitsP_spec {bl : List Nat} {o : Oper} {j : Nat} (h : Nat.testBit (bitsP bl o) j = true) :
    ∃ e ∈ o.after.toList, Region.binds .any e = true ∧ (e.on = j ∨ ∃ x, bl[e.on]? = some x ∧ Nat.testBit x j = true) := by
  unfold bitsP at h
  have key : ∀ (l : List Edge) (s : Nat), Nat.testBit (l.foldl (fun s e => cnd (Region.binds .any e) (Nat.lor s (Nat.lor (Nat.shiftLeft 1 e.on) (match nth bl e.on with
      | some b => b
      | none => 0))) s) s) j = true → Nat.testBit s j = true ∨ ∃ e ∈ l, Region.binds .any e = true ∧ (e.on = j ∨ ∃ x, bl[e.on]? = some x ∧ Nat.testBit x j = true) := by
    intro l
    induction l with
    | nil => intro s h; exact .inl h
    | cons e l ih =>
      intro s h
      rw [List.foldl_cons] at h
      rcases ih _ h with h | ⟨e', h1, h2⟩
      · rw [cnd_eq] at h
        split at h
        · rename_i hb
          rw [testBit_lor, testBit_lor, testBit_one, nth_eq] at h
          simp only [Bool.or_eq_true, decide_eq_true_eq] at h
          rcases h with h | h | h
          · exact .inl h
          · exact .inr ⟨e, List.mem_cons_self, hb, .inl h⟩
          · refine .inr ⟨e, List.mem_cons_self, hb, .inr ?_⟩
            cases q : bl[e.on]? with
            | none => rw [q] at h; simp at h
            | some x => rw [q] at h; exact ⟨x, rfl, h⟩
        · exact .inl h
      · exact .inr ⟨e', List.mem_cons_of_mem _ h1, h2⟩
  rcases key _ _ h with h | h
  · simp at h
  · exact h
theorem bitsL_spec : ∀ {l : List Oper} {bl res : List Nat}, bitsL l bl = res → ∃ tail, res = bl ++ tail ∧ tail.length = l.length ∧
    ∀ (i : Nat) (o : Oper) (b : Nat), l[i]? = some o → tail[i]? = some b → ∀ j : Nat, Nat.testBit b j = true → ∃ e ∈ o.after.toList, Region.binds .any e = true ∧ (e.on = j ∨ ∃ x, res[e.on]? = some x ∧ Nat.testBit x j = true)
  | [], bl, res, h => by cases h; exact ⟨[], by simp [bitsL], rfl, fun i o b ho => by simp at ho⟩
  | a :: l, bl, res, h => by
    simp only [bitsL, forceN_eq] at h
    obtain ⟨tail, h1, h2, h3⟩ := bitsL_spec h
    refine ⟨bitsP bl a :: tail, by rw [h1]; simp, by simp [h2], fun i o b ho hb j hj => ?_⟩
    cases i with
    | zero =>
      cases ho; cases hb
      obtain ⟨e, g1, g2, g3⟩ := bitsP_spec hj
      refine ⟨e, g1, g2, g3.imp id fun ⟨x, g4, g5⟩ => ⟨x, ?_, g5⟩⟩
      have hlt := (List.getElem?_eq_some_iff.1 g4).1
      rw [h1, List.append_assoc, List.getElem?_append_left hlt]
      exact g4
    | succ i => exact h3 i o b ho hb j hj
theorem seqWith_spec {ty : PT ATy} {ops : List Oper} {i : Nat} {x : Oper} : ∀ {l : List Oper} {bl : List Nat}, seqWith ty ops i x l bl = true →
    ∀ (c : Nat) (y : Oper) (b : Nat), l[c]? = some y → bl[c]? = some b → sameDst x y = false ∧ (Nat.testBit b i = true ∨ apartOps ty ops x y = true)
  | [], [], _, c, y, b, hy, _ => by simp at hy
  | [], _ :: _, h, _, _, _, _, _ => by cases h
  | _ :: _, [], h, _, _, _, _, _ => by cases h
  | y :: l, b :: bl, h, c, y', b', hy, hb => by
    simp only [seqWith, Bool.and_eq_true, Bool.or_eq_true, Bool.not_eq_true'] at h
    cases c with
    | zero => cases hy; cases hb; exact h.1
    | succ c => exact seqWith_spec h.2 c y' b' hy hb
theorem seqAll_spec {ty : PT ATy} {ops : List Oper} : ∀ {l : List Oper} {bl : List Nat} {i : Nat}, seqAll ty ops i l bl = true →
    ∀ (a c : Nat) (x y : Oper) (b : Nat), a < c → l[a]? = some x → l[c]? = some y → bl[c]? = some b → sameDst x y = false ∧ (Nat.testBit b (i + a) = true ∨ apartOps ty ops x y = true)
  | [], [], _, _, a, c, x, y, b, _, hx, _, _ => by simp at hx
  | [], _ :: _, _, h, _, _, _, _, _, _, _, _, _ => by cases h
  | _ :: _, [], _, h, _, _, _, _, _, _, _, _, _ => by cases h
  | x :: l, b0 :: bl, i, h, a, c, x', y, b, hac, hx, hy, hb => by
    simp only [seqAll, Bool.and_eq_true] at h
    obtain ⟨c, rfl⟩ : ∃ q, c = q + 1 := ⟨c - 1, by omega⟩
    cases a with
    | zero => cases hx; exact seqWith_spec h.1 c y b hy hb
    | succ a =>
      have := seqAll_spec h.2 a c x' y b (by omega) hx hy hb
      rw [show Nat.succ i + a = i + (a + 1) from by omega] at this
      exact this
end Go.Ev
namespace Go.Ev
section
variable {P : Program} {Ω : Nat → Option Obj} {C : Ctx} {ih : Ev}
theorem St.eqv {G : Nat} {key : FuncId × Nat × Option Nat} {b : Frame} {ρ : Map} {h : AH} {w : World} {T T' : PT AV} {tmps : Array Value} {df : List Nat} (st : St Ω G key b ρ h w T tmps df) (e : Eqv T T') :
    St Ω G key b ρ h w T' tmps df :=
  ⟨st.sim, st.base, ⟨st.tr.1, fun i v hv => st.tr.2 i v (by rw [e i]; exact hv)⟩, fun i v hv => st.tb i v (by rw [e i]; exact hv), st.df, st.rd, st.fn, st.kind, st.ro⟩
theorem St.putD {G : Nat} {key : FuncId × Nat × Option Nat} {b : Frame} {ρ : Map} {h : AH} {w : World} {T : PT AV} {tmps : Array Value} {df : List Nat} (st : St Ω G key b ρ h w T tmps df) {v : AV} (hv : v.lo h.next = true)
    {d : Option Nat} (hd : ∀ s, d = some s → s < key.2.1) : ∃ tmps', St Ω G key b ρ h w (putD d v T) tmps' df ∧ ∀ ds, (Act.mk tmps ds).put d (conc ρ v) = ⟨tmps', ds⟩ := by
  cases d with
  | none => exact ⟨tmps, st, fun _ => rfl⟩
  | some d => exact ⟨_, st.put hv (hd d rfl), fun _ => rfl⟩

theorem seqDraws_ok (hC : CtxOk P C) (S : Sound P Ω C ih) {key : FuncId × Nat × Option Nat} {b : Frame} {T' : PT AV} {h' : AH} {df : List Nat}
    {ops : Array Oper} {bl : List Nat} (hbl : bitsL ops.toList [] = bl) (hback : backEdges ops.toList 0 = true) (hall : seqAll C.ty ops.toList 0 ops.toList bl = true) (k : List Item) (cs : List Frame) :
    ∀ (fuel t : Nat) (listed : Array Bool) (R : List Nat) (ρ : Map) (h : AH) (w : World) (T : PT AV) (tmps : Array Value), listed.size = ops.size → trues listed.toList + fuel = ops.size →
      (R.Pairwise (· < ·)) → (∀ j, j ∈ R ↔ j < ops.size ∧ listed.getD j false = false) →
      (∀ k x, listed.getD k false = true → bl[k]? = some x → ∀ j, Nat.testBit x j = true → listed.getD j false = true) →
      Runs C ih ops.toList key.2.1 R T h T' h' → St Ω C.G key b ρ h w T tmps df →
      ∃ (ρ' : Map) (w' : World) (tmps' : Array Value), Step C.G ρ h w ρ' h' w' ∧ St Ω C.G key b ρ' h' w' T' tmps' df ∧
        Steps P (lone (b.atR ⟨tmps, marks ρ df⟩ (.inRegion ops (Region.linearise.go .any ops fuel t listed []) :: k)) cs w) (lone (b.atR ⟨tmps', marks ρ' df⟩ (.inRegion ops [] :: k)) cs w') := by
  obtain ⟨tail, htl, hlen, hbits⟩ := bitsL_spec hbl
  rw [List.nil_append] at htl
  subst htl
  have done : ∀ (listed : Array Bool) (R : List Nat) (ρ : Map) (h : AH) (w : World) (T : PT AV) (tmps : Array Value), (∀ j, j ∈ R ↔ j < ops.size ∧ listed.getD j false = false) → Runs C ih ops.toList key.2.1 R T h T' h' → St Ω C.G key b ρ h w T tmps df → (∀ j, j < ops.size → listed.getD j false = true) → 
      ∃ (ρ' : Map) (w' : World) (tmps' : Array Value), Step C.G ρ h w ρ' h' w' ∧ St Ω C.G key b ρ' h' w' T' tmps' df ∧
        Steps P (lone (b.atR ⟨tmps, marks ρ df⟩ (.inRegion ops [] :: k)) cs w) (lone (b.atR ⟨tmps', marks ρ' df⟩ (.inRegion ops [] :: k)) cs w') := by
    intro listed R ρ h w T tmps hR hruns st hl
    have hnil : R = [] := by
      cases R with
      | nil => rfl
      | cons a R =>
        obtain ⟨h1, h2⟩ := (hR a).1 List.mem_cons_self
        rw [hl a h1] at h2; cases h2
    subst hnil
    cases hruns with
    | nil e => exact ⟨ρ, w, tmps, .refl st.sim, st.eqv e, .refl P _⟩
  intro fuel
  induction fuel with
  | zero =>
    intro t listed R ρ h w T tmps hsz hcnt hsort hR hdown hruns st
    simp only [Region.linearise.go, List.reverse_nil]
    refine done listed R ρ h w T tmps hR hruns st fun j hj => ?_
    cases q : listed.getD j false with
    | true => rfl
    | false =>
      exfalso
      have hj' : listed.toList[j]? = some false := by
        rw [Array.getElem?_toList, Array.getElem?_eq_getElem (by omega)]
        rw [Array.getD_eq_getD_getElem?, Array.getElem?_eq_getElem (by omega)] at q
        simpa using q
      have := trues_lt hj'
      rw [Array.length_toList] at this
      omega
  | succ fuel ih' =>
    intro t listed R ρ h w T tmps hsz hcnt hsort hR hdown hruns st
    have hgo : Region.linearise.go .any ops (fuel + 1) t listed [] = (match (Region.ready .any ops listed)[t % (Region.ready .any ops listed).length]? with
      | some i => Region.linearise.go .any ops fuel (t / (Region.ready .any ops listed).length) (listed.setIfInBounds i true) [i]
      | none => [].reverse) := rfl
    rw [hgo]
    cases hi : (Region.ready .any ops listed)[t % (Region.ready .any ops listed).length]? with
    | none =>
      have hnil : Region.ready .any ops listed = [] := by
        cases hr : Region.ready .any ops listed with
        | nil => rfl
        | cons x xs =>
          rw [hr] at hi
          have hlt : t % (x :: xs).length < (x :: xs).length := Nat.mod_lt _ (by simp)
          simp at hi
          simp at hlt
          omega
      refine done listed R ρ h w T tmps hR hruns st fun j => ?_
      induction j using Nat.strongRecOn with
      | _ j ihj =>
        intro hj
        cases q : listed.getD j false with
        | true => rfl
        | false =>
          exfalso
          have ho : ops[j]? = some ops[j] := Array.getElem?_eq_getElem hj
          have hm : j ∈ Region.ready .any ops listed := by
            rw [mem_ready]
            refine ⟨?_, ops[j], ho, fun ed hed hb => ?_⟩
            · rw [Array.getD_eq_getD_getElem?, Array.getElem?_eq_getElem (by omega)] at q ⊢
              simpa using q
            · have := backEdges_spec hback j ops[j] (by rw [Array.getElem?_toList]; exact ho) ed (Array.mem_toList_iff.2 hed) hb
              exact ihj _ (by omega) (by omega)
          rw [hnil] at hm
          simp at hm
    | some i =>
      simp only []
      rw [linearise_go_acc, List.reverse_singleton, List.singleton_append]
      obtain ⟨h1, o, ho, h2⟩ := mem_ready.1 (List.mem_of_getElem? hi)
      have hlt : i < ops.size := (Array.getElem?_eq_some_iff.1 ho).1
      have hol : ops.toList[i]? = some o := by rw [Array.getElem?_toList]; exact ho
      have hf : listed[i]? = some false := by
        rw [Array.getD_eq_getD_getElem?, Array.getElem?_eq_getElem (by omega)] at h1
        rw [Array.getElem?_eq_getElem (by omega)]
        simpa using h1
      have hX : listed.getD i false = false := by rw [Array.getD_eq_getD_getElem?, hf]; rfl
      have hgetX : ∀ j, (listed.setIfInBounds i true).getD j false = (listed.getD j false || decide (j = i)) := fun j => by
        rw [Array.getD_eq_getD_getElem?, Array.getD_eq_getD_getElem?, Array.getElem?_setIfInBounds]
        by_cases q : j = i
        · subst q
          rw [if_pos rfl, if_pos (by omega)]
          simp
        · rw [if_neg (fun z => q z.symm)]
          simp [q]
      obtain ⟨bi, hbi⟩ : ∃ x, bl[i]? = some x := ⟨_, List.getElem?_eq_getElem (by rw [hlen, Array.length_toList]; exact hlt)⟩
      have hclosed : ∀ j, Nat.testBit bi j = true → listed.getD j false = true := fun j hj => by
        obtain ⟨e, g1, g2, g3⟩ := hbits i o bi hol hbi j hj
        have g4 := h2 e (Array.mem_toList_iff.1 g1) g2
        rcases g3 with rfl | ⟨x, g5, g6⟩
        · exact g4
        · exact hdown _ x g4 g5 j g6
      obtain ⟨A, B, rfl⟩ := List.append_of_mem ((hR i).2 ⟨hlt, hX⟩)
      have hsp := List.pairwise_append.1 hsort
      have hA : ∀ a ∈ A, a < i := fun a ha => hsp.2.2 a ha i List.mem_cons_self
      have hB : ∀ a ∈ B, i < a := fun a ha => (List.pairwise_cons.1 hsp.2.1).1 a ha
      have hruns' := Runs.front (fun a ha x y hx hy => by
        rw [hol] at hy; cases hy
        obtain ⟨g1, g2⟩ := seqAll_spec hall a i x o bi (hA a ha) hx hol hbi
        refine ⟨g2.resolve_left fun g3 => ?_, g1⟩
        rw [Nat.zero_add] at g3
        have := ((hR a).1 (List.mem_append_left _ ha)).2
        rw [hclosed a g3] at this; cases this) hruns
      cases hruns' with
      | cons ho' hr hd hn =>
        rw [hol] at ho'; cases ho'
        rename_i r
        obtain ⟨ρ₁, w₁, s₁, hlo, hs₁⟩ := evOne_ok hC S st ho hr (rest := Region.linearise.go .any ops fuel (t / (Region.ready .any ops listed).length) (listed.setIfInBounds i true) []) k cs
        obtain ⟨tmps₁, st₁, hput⟩ := (st.step s₁).putD hlo hd
        have hsort' : (A ++ B).Pairwise (· < ·) := List.pairwise_append.2 ⟨hsp.1, (List.pairwise_cons.1 hsp.2.1).2, fun a ha c hc => hsp.2.2 a ha c (List.mem_cons_of_mem _ hc)⟩
        have hR' : ∀ j, j ∈ A ++ B ↔ j < ops.size ∧ (listed.setIfInBounds i true).getD j false = false := fun j => by
          have := hR j
          rw [hgetX, Bool.or_eq_false_iff, ← and_assoc, ← this]
          simp only [List.mem_append, List.mem_cons, decide_eq_false_iff_not]
          constructor
          · rintro (q | q)
            · exact ⟨.inl q, by have := hA j q; omega⟩
            · exact ⟨.inr (.inr q), by have := hB j q; omega⟩
          · rintro ⟨q | q | q, g⟩
            · exact .inl q
            · exact absurd q g
            · exact .inr q
        have hdown' : ∀ k x, (listed.setIfInBounds i true).getD k false = true → bl[k]? = some x → ∀ j, Nat.testBit x j = true → (listed.setIfInBounds i true).getD j false = true := fun k x hk hx j hj => by
          rw [hgetX] at hk ⊢
          rw [Bool.or_eq_true] at hk ⊢
          left
          rcases hk with hk | hk
          · exact hdown k x hk hx j hj
          · have hk := of_decide_eq_true hk
            subst hk
            rw [hbi] at hx; cases hx
            exact hclosed j hj
        obtain ⟨ρ', w', tmps', s', st', hs'⟩ := ih' (t / (Region.ready .any ops listed).length) (listed.setIfInBounds i true) (A ++ B) ρ₁ r.h w₁ _ tmps₁ (by rw [Array.size_setIfInBounds]; exact hsz)
          (by rw [Array.toList_setIfInBounds, trues_set (by rw [Array.getElem?_toList]; exact hf)]; omega) hsort' hR' hdown' hn st₁
        refine ⟨ρ', w', tmps', s₁.trans s', st', hs₁.trans ?_⟩
        rw [hput, ← marks_congr s₁ st.df]
        exact hs'

theorem evFast_ok (hC : CtxOk P C) (S : Sound P Ω C ih) {cx : FC} {b : Frame} {ρ : Map} {h : AH} {w : World} {T : PT AV} {tmps : Array Value} {df : List Nat} (st : St Ω C.G cx.key b ρ h w T tmps df) {ops : Array Oper} (t : Nat) (k : List Item) (cs : List Frame)
    (hseq : isSeq C.ty ops.toList = true) :
    (oneOnly (evSeq C ih cx.n ops.toList df ops.toList T h)).Ok (Out P Ω C.G cx.key b ρ h w k cs (lone (b.atR ⟨tmps, marks ρ df⟩ (.inRegion ops (Region.linearise .any ops t) :: k)) cs w)) := by
  unfold isSeq at hseq
  rw [forceL_eq, Bool.and_eq_true] at hseq
  cases e : evSeq C ih cx.n ops.toList df ops.toList T h with
  | fail => trivial
  | many l => trivial
  | one o =>
    obtain ⟨h1, h2, h3⟩ := evSeq_runs (ops := ops.toList) ops.toList 0 (by simp) e
    have no : ∀ j : Nat, (Array.replicate ops.size false).getD j false = false := fun j => by
      rw [Array.getD_eq_getD_getElem?, Array.getElem?_replicate]
      split <;> rfl
    rw [Array.length_toList] at h3
    obtain ⟨ρ', w', tmps', s', st', hs'⟩ := seqDraws_ok hC S rfl hseq.1 hseq.2 k cs ops.size t (Array.replicate ops.size false) (List.range' 0 ops.size) ρ h w T tmps (by simp) (by
      have : trues (Array.replicate ops.size false).toList = 0 := by
        unfold trues
        rw [List.countP_eq_zero]
        intro a ha
        rw [Array.toList_replicate] at ha
        rw [(List.mem_replicate.1 ha).2]
        simp
      omega) List.pairwise_lt_range' (fun j => by rw [no, List.mem_range'_1]; simp) (fun k x hk => by rw [no] at hk; cases hk) h3 st
    obtain ⟨x, T', df', h'⟩ := o
    simp only at h1 h2
    subst h1 h2
    exact ⟨ρ', w', tmps', s', st', Steps.trans hs' (.one stepR_region_end)⟩

theorem evDraw_ok (hC : CtxOk P C) (S : Sound P Ω C ih) {cx : FC} {b : Frame} {ρ : Map} {h : AH} {w : World} {T : PT AV} {tmps : Array Value} {df : List Nat} (st : St Ω C.G cx.key b ρ h w T tmps df) {ops : Array Oper} (t : Nat) (k : List Item) (cs : List Frame) :
    (evDraw C ih cx ops.toList T df h).Ok (Out P Ω C.G cx.key b ρ h w k cs (lone (b.atR ⟨tmps, marks ρ df⟩ (.inRegion ops (Region.linearise .any ops t) :: k)) cs w)) := by
  unfold evDraw
  rw [cnd_eq]
  split
  · exact evFast_ok hC S st t k cs (by assumption)
  · exact evDrawS_ok hC S st t k cs
end
end Go.Ev
namespace Go.Ev

section
variable {P : Program} {Ω : Nat → Option Obj} {C : Ctx} {ih : Ev}

theorem evCode_ok (hC : CtxOk P C) (S : Sound P Ω C ih) {cx : FC} {T : PT AV} {df : List Nat} {h : AH} {b : Frame} {ρ : Map} {tmps : Array Value} {w : World} (st : St Ω C.G cx.key b ρ h w T tmps df) (k : List Item) (cs : List Frame) (c : Code) :
    Stmt P Ω C cx.key b ρ h w tmps df k cs c (evCode c C ih cx T df h) := by
  cases c with
  | skip => exact cSkip_ok st stepR_skip
  | label l => exact cSkip_ok st stepR_label
  | region id ops draw =>
    change Stmt P Ω C cx.key b ρ h w tmps df k cs _ (cnd draw (evDraw C ih cx ops.toList T df h) (evSeq C ih cx.n ops.toList df ops.toList T h))
    cases draw with
    | true =>
      have s1 := Step.drew st.sim
      refine Res.ok_mono (evDraw_ok hC S (st.step s1) (w.tape w.drawn (.order b.fn id)) k cs) fun o ho => ho.after s1 (.one ?_)
      have := stepR_region_draw (P := P) (b := b) (a := ⟨tmps, marks ρ df⟩) (k := k) (cs := cs) (w := w) (ops := ops) (id := id)
      rw [show Region.schedule (P.follows .mixedOrders) ops (w.tape w.drawn (.order b.fn id)) = Region.linearise .any ops (w.tape w.drawn (.order b.fn id)) by
        simp only [Region.schedule, hC.mixed, Bool.true_or, if_true]] at this
      exact this
    | false =>
      refine Res.ok_mono (evSeq_ok hC S k cs ops.toList 0 rfl st) fun o ho => ho.head ?_
      rw [Array.length_toList, ← List.range_eq_range']
      exact stepR_region
  | seq a c =>
    refine Res.ok_bind (join_ok st (S.code ⟨cx.fn, cx.n, cx.round, liveAt c cx.live⟩ a T df h b ρ tmps w (.code c :: k) cs st)) fun o ho => ?_
    refine Res.ok_mono (thenO_ok ho (x := .code c) rfl fun ρ' w' tmps' st' => S.code cx c o.T o.df o.h b ρ' tmps' w' k cs st') fun o ho => ho.head stepR_seq
  | cond c x y => exact cCond_ok S st c x y
  | block id body => exact cBlock_ok S st id body
  | loop body => exact cLoop_ok S st body
  | rangeFunc f ps a body => exact cRangeFunc_ok hC S st f ps a body k cs
  | exit id => exact cExit_ok st id
  | scope body => exact cScope_ok S st body
  | goto l => exact cGoto_ok st l
  | ret => exact cRet_ok st
  | _ => trivial

theorem ev_sound (hC : CtxOk P C) {Su : Summ} (hS : SummOk P Ω C Su) : ∀ fuel, Sound P Ω C (ev C Su fuel)
  | 0 => ⟨fun _ _ _ _ _ _ _ _ _ _ _ _ => trivial, fun _ _ _ _ _ _ _ _ _ _ _ _ _ => trivial, fun _ _ _ _ _ _ _ _ _ => trivial⟩
  | n + 1 => by
    have S := ev_sound hC hS n
    exact ⟨fun cx c T df h b ρ tmps w k cs st => evCode_ok hC S st k cs c, fun cx body cur T df h b ρ tmps w k cs st => scope_ok S st body cur, fun f args h ρ w cs s B ha => evCallF_ok hC S hS s B f ha cs⟩

/-- What a call comes to, where it comes to one thing. -/
theorem callOut_of_one (hC : CtxOk P C) {Su : Summ} (hS : SummOk P Ω C Su) (fuel : Nat) {f : FuncId} {args : List AV} {h : AH} {ρ : Map} {w : World} (s : Sim C.G ρ h w) (B : Base Ω ρ h w) (ha : loL h.next args = true) {r : V}
    (he : (ev C Su fuel).call f args h = .one r) (cs : List Frame) : CallOut P C.G ρ h w f (concL ρ args).toArray cs r := by
  have := (ev_sound hC hS fuel).call f args h ρ w cs s B ha
  rw [he] at this
  exact this
theorem calls_of_out {f : FuncId} {args : Array Value} {h : AH} {ρ : Map} {w : World} {G : Nat} {r : V} (ho : ∀ cs, CallOut P G ρ h w f args cs r) :
    Calls P f args w fun e w' => ∃ ρ', Step G ρ h w ρ' r.h w' ∧ e = .returned (conc ρ' r.v) := by
  intro cs
  obtain ⟨ρ', w', h1, h2, fr, h4, h5, h6⟩ := ho cs
  exact ⟨.returned (conc ρ' r.v), w', fr, ⟨ρ', h1, rfl⟩, h4, h5, h6⟩
/-- A contract, read as what a call comes to. -/
theorem out_of_calls {f : FuncId} {args : Array Value} {h : AH} {ρ : Map} {w : World} {G : Nat} {r : V} {R : Ending → World → Prop} (hc : Calls P f args w R)
    (hR : ∀ e w', R e w' → ∃ ρ', Step G ρ h w ρ' r.h w' ∧ r.v.lo r.h.next = true ∧ e = .returned (conc ρ' r.v)) (cs : List Frame) : CallOut P G ρ h w f args cs r := by
  obtain ⟨e, w', fr, h1, h2, h3, h4⟩ := hc cs
  obtain ⟨ρ', h5, h6, rfl⟩ := hR e w' h1
  exact ⟨ρ', w', h5, h6, fr, h2, h3, h4⟩

/-- No block is spoken of. -/
noncomputable def AH.none (G : Nat) : AH := ⟨.leaf, G, 0, []⟩
def Map.id : Map := fun g => ⟨g, 0, 0, none⟩
theorem Sim.none (G : Nat) (w : World) : Sim G Map.id (AH.none G) w :=
  ⟨fun b ab hb => (by cases hb), fun b c x y hb => (by cases hb), fun g _ => ⟨rfl, rfl⟩, Nat.le_refl _, Nat.zero_le _, fun _ _ => rfl⟩
theorem Step.below {G : Nat} {ρ ρ' : Map} {h' : AH} {w w' : World} (s : Step G ρ (AH.none G) w ρ' h' w') : RowKit.Below w.heap.size w w' := by
  refine ⟨s.os, s.tape, s.output, s.size, fun k hk => s.frame k hk fun b ab hb => ?_⟩
  cases hb

/-- The blocks of the world that are not spoken of. -/
theorem Base.none {Ω : Nat → Option Obj} {w : World} (h : ∀ g o, Ω g = some o → w.heap[g]? = some o) (G : Nat) : Base Ω Map.id (AH.none G) w :=
  fun g o hg => ⟨h g o hg, fun b ab hb => by cases hb⟩

theorem below_of_one (hC : CtxOk P C) {Su : Summ} (hS : SummOk P Ω C Su) (fuel : Nat) {f : FuncId} {args : List AV} (w : World) (hΩ : ∀ g o, Ω g = some o → w.heap[g]? = some o) (ha : loL C.G args = true) {v : AV} {h' : AH}
    (he : (ev C Su fuel).call f args (AH.none C.G) = .one ⟨v, h'⟩) : Calls P f (concL Map.id args).toArray w fun e w' => ∃ ρ', e = .returned (conc ρ' v) ∧ RowKit.Below w.heap.size w w' := by
  intro cs
  obtain ⟨e, w', fr, ⟨ρ', h1, h2⟩, h3⟩ := calls_of_out (fun cs => callOut_of_one hC hS fuel (Sim.none C.G w) (Base.none hΩ C.G) ha he cs) cs
  exact ⟨e, w', fr, ⟨ρ', h2, h1.below⟩, h3⟩
end
end Go.Ev
namespace Go.Ev

namespace PT
variable {α : Type}
noncomputable def toL (t : PT α) : (Nat → Nat) → List (Nat × α) :=
  PT.rec (motive := fun _ => (Nat → Nat) → List (Nat × α)) (fun _ => [])
    (fun v _ _ fl fr f => Option.rec (motive := fun _ => List (Nat × α)) [] (fun a => [(f 0, a)]) v ++ (fl (fun i => f (2 * i + 1)) ++ fr (fun i => f (2 * i + 2)))) t
theorem mem_toL {a : α} : ∀ {t : PT α} {p : Path} {f : Nat → Nat}, t.getP p = some a → (f (unpath p), a) ∈ t.toL f
  | .leaf, p, f, h => by cases h
  | .node v l r, .z, f, h => by
    have h : v = some a := h
    subst h
    exact List.mem_append_left _ List.mem_cons_self
  | .node v l r, .l p, f, h => by
    have := mem_toL (t := l) (p := p) (f := fun i => f (2 * i + 1)) h
    exact List.mem_append_right _ (List.mem_append_left _ this)
  | .node v l r, .r p, f, h => by
    have := mem_toL (t := r) (p := p) (f := fun i => f (2 * i + 2)) h
    exact List.mem_append_right _ (List.mem_append_right _ this)
theorem get_mem {t : PT α} {i : Nat} {a : α} (h : t.get i = some a) : (i, a) ∈ t.toL fun i => i := by
  have := mem_toL (f := fun i => i) h
  rwa [unpath_path] at this
end PT

theorem map_eq_at {α β : Type} {f g : α → β} {l : List α} (h : l.map f = l.map g) {a : α} (ha : a ∈ l) : f a = g a := by
  induction l with
  | nil => simp at ha
  | cons b l ih =>
    rw [List.map_cons, List.map_cons, List.cons.injEq] at h
    rcases List.mem_cons.1 ha with rfl | ha
    · exact h.1
    · exact ih h.2 ha

theorem ctxOk_of {P : Program} {C : Ctx} (k1 : (C.fn.toL fun i => i).map (fun e => P.funcs[e.1]?) = (C.fn.toL fun i => i).map fun e => some e.2)
    (k2 : (C.fn.toL fun i => i).all (fun e => e.2.name != "runtime.NumGoroutine" && e.2.body.isSome) = true)
    (k3 : (C.ty.toL fun i => i).map (fun e => tyOf P e.1) = (C.ty.toL fun i => i).map fun e => some e.2)
    (k4 : ∀ e ∈ C.ext.toL fun i => i, ∃ fn, P.funcs[e.1]? = some fn ∧ fn.body = none ∧ fn.name ≠ "runtime.NumGoroutine" ∧ Extern.findNext fn = none ∧
      match e.2 with
      | 0 => Extern.find fn = some (fun args => do
          let (x, y, c) ← Extern.MathBitsCarry.three "Add64" args
          pure (Extern.MathBitsCarry.pair ((x + y + c) % Extern.MathBitsCarry.m64) ((x + y + c) / Extern.MathBitsCarry.m64)))
      | 1 => Extern.find fn = some (fun args => do
          let (x, y, b) ← Extern.MathBitsCarry.three "Sub64" args
          pure (Extern.MathBitsCarry.pair ((x + Extern.MathBitsCarry.m64 - y - b) % Extern.MathBitsCarry.m64) (if x < y + b then 1 else 0)))
      | 2 => Extern.find fn = some Extern.AbiNoEscape.same
      | _ => True)
    (k5 : P.follows .mixedOrders = true) : CtxOk P C where
  ty t a h := tyOf_sound (map_eq_at k3 (PT.get_mem h))
  fn f fn h := by
    have hm := PT.get_mem h
    have h1 := map_eq_at k1 hm
    have h2 := List.all_eq_true.1 k2 _ hm
    simp only [Bool.and_eq_true, bne_iff_ne] at h2
    exact ⟨h1, h2.1, h2.2⟩
  ext f k h := k4 _ (PT.get_mem h)
  mixed := k5
end Go.Ev
