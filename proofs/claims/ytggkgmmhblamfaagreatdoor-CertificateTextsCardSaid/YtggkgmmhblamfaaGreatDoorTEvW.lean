/- The evaluator, walked by hand: what a piece of code, a row of operations, a call comes to under enough fuel. -/
import Derived.Test.YtggkgmmhblamfaaGreatDoorTEvM
import Derived.IntWalk
set_option linter.all false
namespace Go.Ev
section
variable {C : Ctx} {S : Summ}

/-- Under enough fuel the code comes to this one outcome, whatever is said to be live. -/
def Run (C : Ctx) (S : Summ) (fn : FuncId) (n : Nat) (rd : Option Nat) (c : Code) (T : PT AV) (df : List Nat) (h : AH) (o : O) : Prop :=
  ∃ K, ∀ k, K ≤ k → ∀ live, (ev C S k).code ⟨fn, n, rd, live⟩ c T df h = .one o
def Ops (C : Ctx) (S : Summ) (n : Nat) (ops : List Oper) (df : List Nat) (l : List Oper) (T : PT AV) (h : AH) (o : O) : Prop :=
  ∃ K, ∀ k, K ≤ k → evSeq C (ev C S k) n ops df l T h = .one o
def RunCall (C : Ctx) (S : Summ) (f : FuncId) (args : List AV) (h : AH) (r : V) : Prop :=
  ∃ K, ∀ k, K ≤ k → (ev C S k).call f args h = .one r

variable {fn : FuncId} {n : Nat} {rd : Option Nat} {T T1 : PT AV} {df df1 : List Nat} {h h1 : AH} {o : O} {a b c x y : Code}

theorem ev_code {k : Nat} {cx : FC} : (ev C S (k + 1)).code cx c = evCode c C (ev C S k) cx := rfl
theorem Run.of_succ (H : ∃ K, ∀ k, K ≤ k → ∀ live, evCode c C (ev C S k) ⟨fn, n, rd, live⟩ T df h = .one o) : Run C S fn n rd c T df h o := by
  obtain ⟨K, hK⟩ := H
  refine ⟨K + 1, fun k hk live => ?_⟩
  obtain ⟨k, rfl⟩ : ∃ j, k = j + 1 := ⟨k - 1, by omega⟩
  rw [ev_code]
  exact hK k (by omega) live
theorem Run.skip : Run C S fn n rd .skip T df h ⟨.norm, T, df, h⟩ := .of_succ ⟨0, fun _ _ _ => rfl⟩
theorem Run.label {l : Nat} : Run C S fn n rd (.label l) T df h ⟨.norm, T, df, h⟩ := .of_succ ⟨0, fun _ _ _ => rfl⟩
theorem Run.ret : Run C S fn n rd .ret T df h ⟨.ret, T, df, h⟩ := .of_succ ⟨0, fun _ _ _ => rfl⟩
theorem Run.exit {i : Nat} : Run C S fn n rd (.exit i) T df h ⟨.exit i, T, df, h⟩ := .of_succ ⟨0, fun _ _ _ => rfl⟩
theorem Run.seq (ha : Run C S fn n rd a T df h ⟨.norm, T1, df1, h1⟩) (hb : Run C S fn n rd b T1 df1 h1 o) : Run C S fn n rd (.seq a b) T df h o := by
  obtain ⟨K1, hK1⟩ := ha
  obtain ⟨K2, hK2⟩ := hb
  refine .of_succ ⟨max K1 K2, fun k hk live => ?_⟩
  show Res.bind (join _ _ _ ((ev C S k).code _ a T df h)) _ = _
  rw [hK1 k (by omega)]
  exact hK2 k (by omega) live
theorem Run.seqX {e : X} (ha : Run C S fn n rd a T df h ⟨e, T1, df1, h1⟩) (he : (match e with | .norm => false | _ => true) = true) : Run C S fn n rd (.seq a b) T df h ⟨e, T1, df1, h1⟩ := by
  obtain ⟨K1, hK1⟩ := ha
  refine .of_succ ⟨K1, fun k hk live => ?_⟩
  show Res.bind (join _ _ _ ((ev C S k).code _ a T df h)) _ = _
  rw [hK1 k hk]
  cases e <;> first | (cases he; done) | rfl
theorem Run.cond {q : Operand} {bb : Bool} (hq : evOpd C.G T q = some (.bool bb)) (hx : bb = true → Run C S fn n rd x T df h o) (hy : bb = false → Run C S fn n rd y T df h o) : Run C S fn n rd (.cond q x y) T df h o := by
  cases bb with
  | true =>
    obtain ⟨K, hK⟩ := hx rfl
    refine .of_succ ⟨K, fun k hk live => ?_⟩
    show oe _ (evOpd C.G T q) _ = _
    rw [hq]
    exact hK k hk live
  | false =>
    obtain ⟨K, hK⟩ := hy rfl
    refine .of_succ ⟨K, fun k hk live => ?_⟩
    show oe _ (evOpd C.G T q) _ = _
    rw [hq]
    exact hK k hk live
theorem Run.condT {q : Operand} (hq : evOpd C.G T q = some (.bool true)) (hx : Run C S fn n rd x T df h o) : Run C S fn n rd (.cond q x y) T df h o := .cond hq (fun _ => hx) (fun e => by cases e)
theorem Run.condF {q : Operand} (hq : evOpd C.G T q = some (.bool false)) (hy : Run C S fn n rd y T df h o) : Run C S fn n rd (.cond q x y) T df h o := .cond hq (fun e => by cases e) (fun _ => hy)
/-- What a block makes of an outcome. -/
def outB (i : Nat) (e : X) : X :=
  match e with
  | .norm => .norm
  | .exit j => if j = i then .norm else .exit j
  | .goto l => .goto l
  | .ret => .ret
theorem Run.block {i : Nat} {e : X} (hb : Run C S fn n rd b T df h ⟨e, T1, df1, h1⟩) : Run C S fn n rd (.block i b) T df h ⟨outB i e, T1, df1, h1⟩ := by
  obtain ⟨K, hK⟩ := hb
  refine .of_succ ⟨K, fun k hk live => ?_⟩
  show Res.bind ((ev C S k).code _ b T df h) _ = _
  rw [hK k hk]
  cases e <;> try rfl
  rename_i j
  show cnd (Nat.beq j i) _ _ = _
  rw [cnd_eq]
  unfold outB
  by_cases q : j = i
  · subst q; simp
  · rw [if_neg (fun z => q (Nat.eq_of_beq_eq_true z))]; simp [q]
theorem Run.loop (hb : Run C S fn n rd b T df h ⟨.norm, T1, df1, h1⟩) (hl : Run C S fn n rd (.loop b) T1 df1 h1 o) : Run C S fn n rd (.loop b) T df h o := by
  obtain ⟨K1, hK1⟩ := hb
  obtain ⟨K2, hK2⟩ := hl
  refine .of_succ ⟨max K1 K2, fun k hk live => ?_⟩
  show Res.bind ((ev C S k).code _ b T df h) _ = _
  rw [hK1 k (by omega)]
  exact hK2 k (by omega) live
theorem Run.loopX {e : X} (hb : Run C S fn n rd b T df h ⟨e, T1, df1, h1⟩) (he : (match e with | .norm => false | _ => true) = true) : Run C S fn n rd (.loop b) T df h ⟨e, T1, df1, h1⟩ := by
  obtain ⟨K1, hK1⟩ := hb
  refine .of_succ ⟨K1, fun k hk live => ?_⟩
  show Res.bind ((ev C S k).code _ b T df h) _ = _
  rw [hK1 k hk]
  cases e <;> first | (cases he; done) | rfl
theorem Run.region {i : Nat} {ops : Array Oper} (H : Ops C S n ops.toList df ops.toList T h o) : Run C S fn n rd (.region i ops false) T df h o := by
  obtain ⟨K, hK⟩ := H
  exact .of_succ ⟨K, fun k hk live => hK k hk⟩
theorem Run.regionD {i : Nat} {ops : Array Oper} (hs : isSeq C.ty ops.toList = true) (H : Ops C S n ops.toList df ops.toList T h o) : Run C S fn n rd (.region i ops true) T df h o := by
  obtain ⟨K, hK⟩ := H
  refine .of_succ ⟨K, fun k hk live => ?_⟩
  show cnd (isSeq C.ty ops.toList) (oneOnly (evSeq _ _ _ _ _ _ _ _)) _ = _
  rw [hs]
  show oneOnly (evSeq C (ev C S k) n ops.toList df ops.toList T h) = _
  rw [hK k hk]
  rfl

/-! Rows of operations -/
variable {ops l : List Oper} {p : Oper} {v : AV}
theorem Ops.nil : Ops C S n ops df [] T h ⟨.norm, T, df, h⟩ := ⟨0, fun _ _ => rfl⟩
theorem putTmp_run {d : Option Nat} {v : AV} {T : PT AV} {k : PT AV → Res O} (hd : ∀ s, d = some s → Nat.blt s n = true) : putTmp n d v T k = k (putD d v T) := by
  cases d with
  | none => rfl
  | some d =>
    show cnd (Nat.blt d n) (PT.force (PT.put (some v) T d) k) .fail = _
    rw [hd d rfl, PT.force_eq]
    rfl
theorem Ops.val (hw : wanted ops T p.guard = some true) (he : evOp p.op C T h = .val v h1) (hd : ∀ s, p.dst = some s → Nat.blt s n = true) (H : Ops C S n ops df l (putD p.dst v T) h1 o) : Ops C S n ops df (p :: l) T h o := by
  obtain ⟨K, hK⟩ := H
  refine ⟨K, fun k hk => ?_⟩
  show evStep C (ev C S k) n ops p (fun T h => evSeq C (ev C S k) n ops df l T h) T h = _
  unfold evStep
  rw [hw]
  show opThen _ (evOp p.op C T h) _ = _
  rw [he]
  show putTmp n p.dst v T (fun T => evSeq C (ev C S k) n ops df l T h1) = _
  rw [putTmp_run hd]
  exact hK k hk
theorem Ops.eff (hw : wanted ops T p.guard = some true) (he : evOp p.op C T h = .skip h1) (hd : ∀ s, p.dst = some s → Nat.blt s n = true) (H : Ops C S n ops df l (putD p.dst (.tup []) T) h1 o) : Ops C S n ops df (p :: l) T h o := by
  obtain ⟨K, hK⟩ := H
  refine ⟨K, fun k hk => ?_⟩
  show evStep C (ev C S k) n ops p (fun T h => evSeq C (ev C S k) n ops df l T h) T h = _
  unfold evStep
  rw [hw]
  show opThen _ (evOp p.op C T h) _ = _
  rw [he]
  show putTmp n p.dst (.tup []) T (fun T => evSeq C (ev C S k) n ops df l T h1) = _
  rw [putTmp_run hd]
  exact hK k hk
theorem Ops.not (hw : wanted ops T p.guard = some false) (hd : ∀ s, p.dst = some s → Nat.blt s n = true) (H : Ops C S n ops df l (putD p.dst (.tup []) T) h o) : Ops C S n ops df (p :: l) T h o := by
  obtain ⟨K, hK⟩ := H
  refine ⟨K, fun k hk => ?_⟩
  show evStep C (ev C S k) n ops p (fun T h => evSeq C (ev C S k) n ops df l T h) T h = _
  unfold evStep
  rw [hw]
  show putTmp n p.dst (.tup []) T (fun T => evSeq C (ev C S k) n ops df l T h) = _
  rw [putTmp_run hd]
  exact hK k hk
theorem Ops.call {f : FuncId} {args : List AV} {h2 : AH} (hw : wanted ops T p.guard = some true) (he : evOp p.op C T h = .call f args h1) (hc : RunCall C S f args h1 ⟨v, h2⟩) (hd : ∀ s, p.dst = some s → Nat.blt s n = true)
    (H : Ops C S n ops df l (putD p.dst v T) h2 o) : Ops C S n ops df (p :: l) T h o := by
  obtain ⟨K, hK⟩ := H
  obtain ⟨K2, hK2⟩ := hc
  refine ⟨max K K2, fun k hk => ?_⟩
  show evStep C (ev C S k) n ops p (fun T h => evSeq C (ev C S k) n ops df l T h) T h = _
  unfold evStep
  rw [hw]
  show opThen _ (evOp p.op C T h) _ = _
  rw [he]
  show Res.bind ((ev C S k).call f args h1) _ = _
  rw [hK2 k (by omega)]
  show putTmp n p.dst v T (fun T => evSeq C (ev C S k) n ops df l T h2) = _
  rw [putTmp_run hd]
  exact hK k (by omega)

/-! Calls -/
theorem RunCall.summ {f : FuncId} {args : List AV} {s : List AV → AH → Res V} {r : V} (hs : S.get f = some s) (hr : s args h = .one r) : RunCall C S f args h r := by
  refine ⟨1, fun k hk => ?_⟩
  obtain ⟨k, rfl⟩ : ∃ j, k = j + 1 := ⟨k - 1, by omega⟩
  show evCallF C S (ev C S k) f args h = _
  unfold evCallF
  rw [hs]
  simp only [hr]
theorem RunCall.enter {f : FuncId} {args : List AV} {F : Func} {r : V} {r' : V} (hs : S.get f = none) (hF : C.fn.get f = some F) (hc : F.body = some c) (hn : Nat.ble (len args) F.ntmps = true)
    (hb : Run C S f F.ntmps none c (argsT args 0 .leaf) [] ⟨h.t, h.next, h.next, []⟩ o) (he : atEnd C F o = .one r) (hr : behind h (.one r) = .one r') : RunCall C S f args h r' := by
  obtain ⟨K, hK⟩ := hb
  refine ⟨K + 1, fun k hk => ?_⟩
  obtain ⟨k, rfl⟩ : ∃ j, k = j + 1 := ⟨k - 1, by omega⟩
  show evCallF C S (ev C S k) f args h = _
  unfold evCallF
  rw [hs]
  show evEnter C (ev C S k) f args h = _
  unfold evEnter
  rw [hF]
  simp only [hc]
  rw [hn]
  show behind h (Res.bind ((ev C S k).code _ c _ _ _) _) = _
  rw [hK k (by omega)]
  show behind h (atEnd C F o) = _
  rw [he, hr]
/-- A call whose result names no block and that has written no old one: the blocks are as before. -/
theorem behind_quiet {v : AV} {t : PT ABlock} {nx mk : Nat} (hv : (v.all fun b => Nat.blt b h.next) = true) : behind h (.one ⟨v, ⟨t, nx, mk, []⟩⟩) = .one ⟨v, h⟩ := by
  show cnd (v.all fun b => Nat.blt b h.next) (Res.one (V.mk v h)) _ = _
  rw [hv]; rfl
end
end Go.Ev
namespace Go.Ev
section
variable {C : Ctx} {T : PT AV} {h : AH} {ty : PT ATy}
theorem get_putD {d : Nat} {v : AV} {T : PT AV} {j : Nat} : (putD (some d) v T).get j = if j = d then some v else T.get j := PT.get_put _ _ _ _
theorem putD_none {v : AV} {T : PT AV} : putD none v T = T := rfl
theorem opd_tmp {G : Nat} {t : Nat} : evOpd G T (.tmp t) = T.get t := rfl
theorem opd_const {G : Nat} {v : Value} : evOpd G T (.const v) = ofValue v := rfl
theorem opd_func {G : Nat} {f : Nat} : evOpd G T (.func f) = some (.fn f []) := rfl
theorem ofValue_int {k : IntKind} {n : Int} : ofValue (.int k n) = some (.int k n) := rfl
theorem ofValue_bool {b : Bool} : ofValue (.bool b) = some (.bool b) := rfl
theorem ofValue_str {s : ByteArray} : ofValue (.string s) = some (.str s.data.toList) := rfl
theorem ofValue_nilif : ofValue .nilIface = some .nili := rfl
theorem op_move {x : Operand} : evOp (.move x) C T h = R.ofVal h (evOpd C.G T x) := rfl
theorem op_assign {x : Operand} : evOp (.assign x) C T h = R.ofVal h (evOpd C.G T x) := rfl
theorem ofVal_some {v : AV} : R.ofVal h (some v) = .val v h := rfl
theorem op_pick {c a b : Operand} : evOp (.pick c a b) C T h = with1 (evOpd C.G T c) fun c => with2 (evOpd C.G T a) (evOpd C.G T b) fun a b => evPick c a b h := rfl
theorem pick_true {x y : AV} : evPick (.bool true) x y h = .val x h := rfl
theorem pick_false {x y : AV} : evPick (.bool false) x y h = .val y h := rfl
theorem with1_some {v : AV} {k : AV → R} : with1 (some v) k = k v := rfl
theorem with2_some {u v : AV} {k : AV → AV → R} : with2 (some u) (some v) k = k u v := rfl
theorem withT_some {a : ATy} {t : Nat} {k : ATy → R} (ha : ty.get t = some a) : withT ty t k = k a := by unfold withT; rw [ha]
theorem op_bin {op : BinOp} {t t2 : TypeId} {x y : Operand} : evOp (.binOp op t x y t2) C T h = with2 (evOpd C.G T x) (evOpd C.G T y) fun a b => R.ofVal h (binV C.ty op t (isConst x || isConst y) a b) := rfl
theorem binV_int {op : BinOp} {t : TypeId} {c : Bool} {k j : IntKind} {a b : Int} : binV ty op t c (.int k a) (.int j b) = (match evInts op k a j b with | some v => some v | none => samePtr ty op t (.int k a) (.int j b)) := rfl
theorem kindEq_self {k : IntKind} : kindEq k k = true := kindEq_iff.2 rfl
theorem bin_lss {t : TypeId} {c : Bool} {k : IntKind} {a b : Int} : binV ty .lss t c (.int k a) (.int k b) = some (.bool (decide (a < b))) := by
  rw [binV_int]
  have : evInts .lss k a k b = some (.bool (decide (a < b))) := by
    show cnd (kindEq k k) (mkB (Bool.not (leI b a))) none = _
    rw [kindEq_self, mkB_eq, leI_eq]
    show some (AV.bool _) = _
    congr 2
    by_cases h : a < b
    · rw [decide_eq_true h, decide_eq_false (by omega)]; rfl
    · rw [decide_eq_false h, decide_eq_true (by omega)]; rfl
  rw [this]
theorem bin_leq {t : TypeId} {c : Bool} {k : IntKind} {a b : Int} : binV ty .leq t c (.int k a) (.int k b) = some (.bool (decide (a ≤ b))) := by
  rw [binV_int]
  have : evInts .leq k a k b = some (.bool (decide (a ≤ b))) := by
    show cnd (kindEq k k) (mkB (leI a b)) none = _
    rw [kindEq_self, mkB_eq, leI_eq]; rfl
  rw [this]
theorem bin_gtr {t : TypeId} {c : Bool} {k : IntKind} {a b : Int} : binV ty .gtr t c (.int k a) (.int k b) = some (.bool (decide (b < a))) := by
  rw [binV_int]
  have : evInts .gtr k a k b = some (.bool (decide (b < a))) := by
    show cnd (kindEq k k) (mkB (Bool.not (leI a b))) none = _
    rw [kindEq_self, mkB_eq, leI_eq]
    show some (AV.bool _) = _
    congr 2
    by_cases h : b < a
    · rw [decide_eq_true h, decide_eq_false (by omega)]; rfl
    · rw [decide_eq_false h, decide_eq_true (by omega)]; rfl
  rw [this]
theorem bin_geq {t : TypeId} {c : Bool} {k : IntKind} {a b : Int} : binV ty .geq t c (.int k a) (.int k b) = some (.bool (decide (b ≤ a))) := by
  rw [binV_int]
  have : evInts .geq k a k b = some (.bool (decide (b ≤ a))) := by
    show cnd (kindEq k k) (mkB (leI b a)) none = _
    rw [kindEq_self, mkB_eq, leI_eq]; rfl
  rw [this]
theorem bin_eql {t : TypeId} {c : Bool} {k : IntKind} {a b : Int} : binV ty .eql t c (.int k a) (.int k b) = some (.bool (decide (a = b))) := by
  rw [binV_int]
  have : evInts .eql k a k b = some (.bool (decide (a = b))) := by
    show cnd (kindEq k k) (mkB (eqI a b)) none = _
    rw [kindEq_self, mkB_eq, eqI_eq]; rfl
  rw [this]
theorem bin_neq {t : TypeId} {c : Bool} {k : IntKind} {a b : Int} : binV ty .neq t c (.int k a) (.int k b) = some (.bool (!decide (a = b))) := by
  rw [binV_int]
  have : evInts .neq k a k b = some (.bool (!decide (a = b))) := by
    show cnd (kindEq k k) (mkB (Bool.not (eqI a b))) none = _
    rw [kindEq_self, mkB_eq, eqI_eq]; rfl
  rw [this]
theorem bin_add {t : TypeId} {c : Bool} {a b : Int} (h0 : -9223372036854775808 ≤ a + b) (h1 : a + b ≤ 9223372036854775807) : binV ty .add t c (.int .i64 a) (.int .i64 b) = some (.int .i64 (a + b)) := by
  rw [binV_int]
  have : evInts .add .i64 a .i64 b = some (.int .i64 (a + b)) := by
    show cnd (kindEq .i64 .i64) (mkI .i64 (wrapF .i64 (a + b))) none = _
    rw [kindEq_self, mkI_eq, wrapF_eq, IntWalk.i64_in _ ⟨h0, h1⟩]; rfl
  rw [this]
theorem bin_sub {t : TypeId} {c : Bool} {a b : Int} (h0 : -9223372036854775808 ≤ a - b) (h1 : a - b ≤ 9223372036854775807) : binV ty .sub t c (.int .i64 a) (.int .i64 b) = some (.int .i64 (a - b)) := by
  rw [binV_int]
  have : evInts .sub .i64 a .i64 b = some (.int .i64 (a - b)) := by
    show cnd (kindEq .i64 .i64) (mkI .i64 (wrapF .i64 (a - b))) none = _
    rw [kindEq_self, mkI_eq, wrapF_eq, IntWalk.i64_in _ ⟨h0, h1⟩]; rfl
  rw [this]
end
end Go.Ev
namespace Go.Ev
section
variable {C : Ctx} {S : Summ} {n : Nat} {ops l : List Oper} {df : List Nat} {T : PT AV} {h h1 h2 : AH} {o : O} {op : Op} {t : TypeId} {pos : String} {af : Array Edge} {d : Nat} {v : AV}
theorem Ops.vN (he : evOp op C T h = .val v h1) (hd : Nat.blt d n = true) (H : Ops C S n ops df l (putD (some d) v T) h1 o) : Ops C S n ops df (⟨some d, op, t, pos, af, none⟩ :: l) T h o :=
  Ops.val (p := ⟨some d, op, t, pos, af, none⟩) rfl he (fun s e => by cases e; exact hd) H
theorem Ops.eN (he : evOp op C T h = .skip h1) (H : Ops C S n ops df l T h1 o) : Ops C S n ops df (⟨none, op, t, pos, af, none⟩ :: l) T h o :=
  Ops.eff (p := ⟨none, op, t, pos, af, none⟩) rfl he (fun s e => by cases e) H
theorem Ops.vG {g : Nat × Bool} (hw : guardOf ops T g = some true) (he : evOp op C T h = .val v h1) (hd : Nat.blt d n = true) (H : Ops C S n ops df l (putD (some d) v T) h1 o) : Ops C S n ops df (⟨some d, op, t, pos, af, some g⟩ :: l) T h o :=
  Ops.val (p := ⟨some d, op, t, pos, af, some g⟩) hw he (fun s e => by cases e; exact hd) H
theorem Ops.nG {g : Nat × Bool} (hw : guardOf ops T g = some false) (hd : Nat.blt d n = true) (H : Ops C S n ops df l (putD (some d) (.tup []) T) h o) : Ops C S n ops df (⟨some d, op, t, pos, af, some g⟩ :: l) T h o :=
  Ops.not (p := ⟨some d, op, t, pos, af, some g⟩) hw (fun s e => by cases e; exact hd) H
theorem Ops.cN {f : FuncId} {args : List AV} (he : evOp op C T h = .call f args h1) (hc : RunCall C S f args h1 ⟨v, h2⟩) (hd : Nat.blt d n = true) (H : Ops C S n ops df l (putD (some d) v T) h2 o) : Ops C S n ops df (⟨some d, op, t, pos, af, none⟩ :: l) T h o :=
  Ops.call (p := ⟨some d, op, t, pos, af, none⟩) rfl he hc (fun s e => by cases e; exact hd) H
theorem Ops.cG {g : Nat × Bool} {f : FuncId} {args : List AV} (hw : guardOf ops T g = some true) (he : evOp op C T h = .call f args h1) (hc : RunCall C S f args h1 ⟨v, h2⟩) (hd : Nat.blt d n = true) (H : Ops C S n ops df l (putD (some d) v T) h2 o) : Ops C S n ops df (⟨some d, op, t, pos, af, some g⟩ :: l) T h o :=
  Ops.call (p := ⟨some d, op, t, pos, af, some g⟩) hw he hc (fun s e => by cases e; exact hd) H
/-- A guard: the number of an operation, and what it must have come to. -/
theorem guard_bool {i : Nat} {g b : Bool} {x : Oper} {d : Nat} (hx : ops[i]? = some x) (hd : x.dst = some d) (hT : T.get d = some (.bool b)) : guardOf ops T (i, g) = some (b == g) := by
  unfold guardOf
  rw [nth_eq]
  simp only [hx, hd, hT]
theorem guard_not {i : Nat} {g : Bool} {x : Oper} {d : Nat} (hx : ops[i]? = some x) (hd : x.dst = some d) (hT : T.get d = some (.tup [])) : guardOf ops T (i, g) = some false := by
  unfold guardOf
  rw [nth_eq]
  simp only [hx, hd, hT]
end
/-! Rows -/
/-- What a slice's elements are, one cell each. -/
def RowAt (h : AH) (v : AV) (l : List AV) : Prop :=
  (v = .nils ∧ l = []) ∨ ∃ b off cap c fz, (v = .slice b off l.length cap ∨ v = .sliceU b off l.length 1) ∧ h.t.get b = some (.cells c fz) ∧ ∀ i x, l[i]? = some x → c[off + i]? = some x
section
variable {C : Ctx} {T : PT AV} {h : AH} {ty : PT ATy} {a ae : ATy} {e : Nat}
theorem RowAt.len {v : AV} {l : List AV} (r : RowAt h v l) (ha : a.d = .slice e) : evLen ty a v h = some (.int .i64 l.length) := by
  unfold evLen
  rw [ha]
  rcases r with ⟨rfl, rfl⟩ | ⟨b, off, cap, c, fz, rfl | rfl, _, _⟩ <;> rfl
theorem RowAt.elem {v : AV} {l : List AV} (r : RowAt h v l) (ha : a.d = .slice e) (he : ty.get e = some ae) (h1 : ae.size = 1) (h2 : ae.agg = false) {i : Nat} {x : AV} (hx : l[i]? = some x) :
    ∃ b o, evIndexAddr ty a v (.int .i64 i) h = .val (.ptr b o) h ∧ evLoad ae (.ptr b o) h = .val x h := by
  have hlt := (List.getElem?_eq_some_iff.1 hx).1
  rcases r with ⟨rfl, rfl⟩ | ⟨b, off, cap, c, fz, hv, hb, hc⟩
  · simp at hx
  · refine ⟨b, off + i, ?_, ?_⟩
    · have : evIndexAddr ty a v (.int .i64 i) h = (AV.sliceE .fail v fun b off n => oe .fail (idx (.int .i64 i) n) fun i => forceN (Nat.add off (Nat.mul i ae.size)) fun o => .val (.ptr b o) h) := by
        unfold evIndexAddr elemOf
        rw [ha]
        show oe R.fail (oe none (ty.get e) fun a => some (none, a)) _ = _
        rw [he]
        rfl
      rw [this]
      have hi : idx (.int .i64 (i : Int)) l.length = some i := by
        show cnd (Nat.blt i l.length) (some i) none = _
        rw [blt_iff.2 hlt]; rfl
      rcases hv with rfl | rfl
      · show oe R.fail (idx (.int .i64 (i : Int)) l.length) _ = _
        rw [hi, h1]
        show forceN (off + i * 1) (fun o => R.val (AV.ptr b o) h) = _
        rw [forceN_eq, Nat.mul_one]
      · show oe R.fail (idx (.int .i64 (i : Int)) l.length) _ = _
        rw [hi, h1]
        show forceN (off + i * 1) (fun o => R.val (AV.ptr b o) h) = _
        rw [forceN_eq, Nat.mul_one]
    · show oe R.fail (h.t.get b) _ = _
      rw [hb]
      show R.ofVal h (loadAt ae c (off + i)) = _
      unfold loadAt
      rw [h2]
      show R.ofVal h (nth c (off + i)) = _
      rw [nth_eq, hc i x hx]
      rfl
theorem op_len {x : Operand} {t : TypeId} {v : AV} (hx : evOpd C.G T x = some v) (ht : C.ty.get t = some a) : evOp (.call { callee := .builtin .len, args := #[x], argTypes := #[t] }) C T h = R.ofVal h (evLen C.ty a v h) := by
  show withL (oe none (evOpd C.G T x) fun v => oe none (some []) fun vs => some (v :: vs)) _ = _
  rw [hx]
  show withT C.ty t _ = _
  rw [withT_some ht]
  rfl
theorem op_indexAddr {t : TypeId} {x i : Operand} {v iv : AV} (hx : evOpd C.G T x = some v) (hi : evOpd C.G T i = some iv) (ht : C.ty.get t = some a) : evOp (.indexAddr t x i) C T h = evIndexAddr C.ty a v iv h := by
  show withT C.ty t (fun a => with2 (evOpd C.G T x) (evOpd C.G T i) _) = _
  rw [withT_some ht, hx, hi]
  rfl
theorem op_load {t : TypeId} {x : Operand} {v : AV} (hx : evOpd C.G T x = some v) (ht : C.ty.get t = some a) : evOp (.load t x) C T h = evLoad a v h := by
  show withT C.ty t (fun a => with1 (evOpd C.G T x) _) = _
  rw [withT_some ht, hx]
  rfl
end
end Go.Ev
namespace Go.Ev
section
variable {C : Ctx} {S : Summ} {fn : FuncId} {n : Nat} {rd : Option Nat} {T T1 : PT AV} {df df1 : List Nat} {h h1 h2 : AH} {a b c x y : Code}
abbrev Post := X → PT AV → List Nat → AH → Prop
def WRun (C : Ctx) (S : Summ) (fn : FuncId) (n : Nat) (rd : Option Nat) (c : Code) (T : PT AV) (df : List Nat) (h : AH) (Q : Post) : Prop :=
  ∃ e T' df' h', Run C S fn n rd c T df h ⟨e, T', df', h'⟩ ∧ Q e T' df' h'
def WOps (C : Ctx) (S : Summ) (n : Nat) (ops : List Oper) (df : List Nat) (l : List Oper) (T : PT AV) (h : AH) (K : PT AV → AH → Prop) : Prop :=
  ∃ T' h', Ops C S n ops df l T h ⟨.norm, T', df, h'⟩ ∧ K T' h'
variable {Q : Post}
/-- What must hold where a piece of code is left, if b stands behind it. -/
def Kseq (C : Ctx) (S : Summ) (fn : FuncId) (n : Nat) (rd : Option Nat) (b : Code) (Q : Post) : Post := fun e T df h =>
  match e with
  | .norm => WRun C S fn n rd b T df h Q
  | e => Q e T df h
def Kblk (i : Nat) (Q : Post) : Post := fun e => Q (outB i e)
theorem WRun.mono {Q' : Post} (H : WRun C S fn n rd c T df h Q) (hq : ∀ e T df h, Q e T df h → Q' e T df h) : WRun C S fn n rd c T df h Q' := by
  obtain ⟨e, T', df', h', h1, h2⟩ := H
  exact ⟨e, T', df', h', h1, hq _ _ _ _ h2⟩
theorem WRun.seq (H : WRun C S fn n rd a T df h (Kseq C S fn n rd b Q)) : WRun C S fn n rd (.seq a b) T df h Q := by
  obtain ⟨e, T', df', h', h1, h2⟩ := H
  cases e with
  | norm =>
    obtain ⟨e2, T2, df2, h2', h3, h4⟩ := h2
    exact ⟨e2, T2, df2, h2', h1.seq h3, h4⟩
  | exit i => exact ⟨_, _, _, _, h1.seqX rfl, h2⟩
  | goto i => exact ⟨_, _, _, _, h1.seqX rfl, h2⟩
  | ret => exact ⟨_, _, _, _, h1.seqX rfl, h2⟩
theorem WRun.skip (H : Q .norm T df h) : WRun C S fn n rd .skip T df h Q := ⟨_, _, _, _, .skip, H⟩
theorem WRun.ret (H : Q .ret T df h) : WRun C S fn n rd .ret T df h Q := ⟨_, _, _, _, .ret, H⟩
theorem WRun.exit {i : Nat} (H : Q (.exit i) T df h) : WRun C S fn n rd (.exit i) T df h Q := ⟨_, _, _, _, .exit, H⟩
theorem WRun.label {i : Nat} (H : Q .norm T df h) : WRun C S fn n rd (.label i) T df h Q := ⟨_, _, _, _, .label, H⟩
theorem WRun.block {i : Nat} (H : WRun C S fn n rd b T df h (Kblk i Q)) : WRun C S fn n rd (.block i b) T df h Q := by
  obtain ⟨e, T', df', h', h1, h2⟩ := H
  exact ⟨_, _, _, _, h1.block, h2⟩
theorem WRun.condT {q : Operand} (hq : evOpd C.G T q = some (.bool true)) (H : WRun C S fn n rd x T df h Q) : WRun C S fn n rd (.cond q x y) T df h Q := by
  obtain ⟨e, T', df', h', h1, h2⟩ := H
  exact ⟨_, _, _, _, .condT hq h1, h2⟩
theorem WRun.condF {q : Operand} (hq : evOpd C.G T q = some (.bool false)) (H : WRun C S fn n rd y T df h Q) : WRun C S fn n rd (.cond q x y) T df h Q := by
  obtain ⟨e, T', df', h', h1, h2⟩ := H
  exact ⟨_, _, _, _, .condF hq h1, h2⟩
theorem WRun.region {i : Nat} {ops : Array Oper} (H : WOps C S n ops.toList df ops.toList T h fun T1 h1 => Q .norm T1 df h1) : WRun C S fn n rd (.region i ops false) T df h Q := by
  obtain ⟨T', h', h1, h2⟩ := H
  exact ⟨_, _, _, _, .region h1, h2⟩
theorem WRun.regionD {i : Nat} {ops : Array Oper} (hs : isSeq C.ty ops.toList = true) (H : WOps C S n ops.toList df ops.toList T h fun T1 h1 => Q .norm T1 df h1) : WRun C S fn n rd (.region i ops true) T df h Q := by
  obtain ⟨T', h', h1, h2⟩ := H
  exact ⟨_, _, _, _, .regionD hs h1, h2⟩
/-- A loop: I m holds at its head, m goes down from round to round. -/
theorem WRun.loop {I : Nat → PT AV → AH → Prop} (hI : ∀ m T h, I m T h → WRun C S fn n rd b T df h fun e T1 df1 h1 => match e with
      | .norm => df1 = df ∧ ∃ m', m' < m ∧ I m' T1 h1
      | e => Q e T1 df1 h1) {m : Nat} (h0 : I m T h) : WRun C S fn n rd (.loop b) T df h Q := by
  induction m using Nat.strongRecOn generalizing T h with
  | _ m ih =>
    obtain ⟨e, T', df', h', h1, h2⟩ := hI m T h h0
    cases e with
    | norm =>
      obtain ⟨rfl, m', hm, h3⟩ := h2
      obtain ⟨e2, T2, df2, h2', h4, h5⟩ := ih m' hm h3
      exact ⟨_, _, _, _, h1.loop h4, h5⟩
    | exit i => exact ⟨_, _, _, _, h1.loopX rfl, h2⟩
    | goto i => exact ⟨_, _, _, _, h1.loopX rfl, h2⟩
    | ret => exact ⟨_, _, _, _, h1.loopX rfl, h2⟩

variable {ops l : List Oper} {op : Op} {t : TypeId} {pos : String} {af : Array Edge} {d : Nat} {v : AV} {K : PT AV → AH → Prop}
theorem WOps.nil (H : K T h) : WOps C S n ops df [] T h K := ⟨_, _, Ops.nil, H⟩
theorem WOps.vN (he : evOp op C T h = .val v h1) (hd : Nat.blt d n = true) (H : WOps C S n ops df l (putD (some d) v T) h1 K) : WOps C S n ops df (⟨some d, op, t, pos, af, none⟩ :: l) T h K := by
  obtain ⟨T', h', h1, h2⟩ := H
  exact ⟨_, _, Ops.vN he hd h1, h2⟩
theorem WOps.eN (he : evOp op C T h = .skip h1) (H : WOps C S n ops df l T h1 K) : WOps C S n ops df (⟨none, op, t, pos, af, none⟩ :: l) T h K := by
  obtain ⟨T', h', h1, h2⟩ := H
  exact ⟨_, _, Ops.eN he h1, h2⟩
theorem WOps.vG {g : Nat × Bool} (hw : guardOf ops T g = some true) (he : evOp op C T h = .val v h1) (hd : Nat.blt d n = true) (H : WOps C S n ops df l (putD (some d) v T) h1 K) : WOps C S n ops df (⟨some d, op, t, pos, af, some g⟩ :: l) T h K := by
  obtain ⟨T', h', h1, h2⟩ := H
  exact ⟨_, _, Ops.vG hw he hd h1, h2⟩
theorem WOps.nG {g : Nat × Bool} (hw : guardOf ops T g = some false) (hd : Nat.blt d n = true) (H : WOps C S n ops df l (putD (some d) (.tup []) T) h K) : WOps C S n ops df (⟨some d, op, t, pos, af, some g⟩ :: l) T h K := by
  obtain ⟨T', h', h1, h2⟩ := H
  exact ⟨_, _, Ops.nG hw hd h1, h2⟩
theorem WOps.cN {f : FuncId} {args : List AV} (he : evOp op C T h = .call f args h1) (hc : RunCall C S f args h1 ⟨v, h2⟩) (hd : Nat.blt d n = true) (H : WOps C S n ops df l (putD (some d) v T) h2 K) : WOps C S n ops df (⟨some d, op, t, pos, af, none⟩ :: l) T h K := by
  obtain ⟨T', h', h1, h2⟩ := H
  exact ⟨_, _, Ops.cN he hc hd h1, h2⟩
theorem WOps.cG {g : Nat × Bool} {f : FuncId} {args : List AV} (hw : guardOf ops T g = some true) (he : evOp op C T h = .call f args h1) (hc : RunCall C S f args h1 ⟨v, h2⟩) (hd : Nat.blt d n = true) (H : WOps C S n ops df l (putD (some d) v T) h2 K) : WOps C S n ops df (⟨some d, op, t, pos, af, some g⟩ :: l) T h K := by
  obtain ⟨T', h', h1, h2⟩ := H
  exact ⟨_, _, Ops.cG hw he hc hd h1, h2⟩
/-- A function whose result names no block and that has written no old one. -/
theorem WRun.calls {f : FuncId} {args : List AV} {F : Func} {v : AV} (hs : S.get f = none) (hF : C.fn.get f = some F) (hc : F.body = some c) (hn : Nat.ble (len args) F.ntmps = true) (hv : (v.all fun b => Nat.blt b h.next) = true)
    (H : WRun C S f F.ntmps none c (argsT args 0 .leaf) [] ⟨h.t, h.next, h.next, []⟩ fun e T df h' => ∃ t nx mk, atEnd C F ⟨e, T, df, h'⟩ = .one ⟨v, ⟨t, nx, mk, []⟩⟩) : RunCall C S f args h ⟨v, h⟩ := by
  obtain ⟨e, T', df', h', h1, t, nx, mk, h2⟩ := H
  exact RunCall.enter hs hF hc hn h1 h2 (behind_quiet hv)
/-- One result, in a slot. -/
theorem WRun.calls1 {f : FuncId} {args : List AV} {F : Func} {v : AV} {r : Nat} (hs : S.get f = none) (hF : C.fn.get f = some F) (hc : F.body = some c) (hn : Nat.ble (len args) F.ntmps = true) (hres : F.results.toList = [.tmp r])
    (hv : (v.all fun b => Nat.blt b h.next) = true)
    (H : WRun C S f F.ntmps none c (argsT args 0 .leaf) [] ⟨h.t, h.next, h.next, []⟩ fun e T df h' => (match e with | .norm => True | .ret => True | _ => False) ∧ df = [] ∧ h'.log = [] ∧ T.get r = some v) : RunCall C S f args h ⟨v, h⟩ := by
  refine WRun.calls hs hF hc hn hv (H.mono fun e T df h' ⟨h1, h2, h3, h4⟩ => ?_)
  obtain ⟨t, nx, mk, lg⟩ := h'
  subst h2
  have h3 : lg = [] := h3
  subst h3
  refine ⟨t, nx, mk, ?_⟩
  unfold atEnd
  cases e <;> first | (exact h1.elim; done) | (simp only [dropMarks, hres, ressOf, resOf, h4]; rfl)
/-- Two results, in slots. -/
theorem WRun.calls2 {f : FuncId} {args : List AV} {F : Func} {v u : AV} {r q : Nat} (hs : S.get f = none) (hF : C.fn.get f = some F) (hc : F.body = some c) (hn : Nat.ble (len args) F.ntmps = true) (hres : F.results.toList = [.tmp r, .tmp q])
    (hv : (v.all fun b => Nat.blt b h.next) = true) (hu : (u.all fun b => Nat.blt b h.next) = true)
    (H : WRun C S f F.ntmps none c (argsT args 0 .leaf) [] ⟨h.t, h.next, h.next, []⟩ fun e T df h' => (match e with | .norm => True | .ret => True | _ => False) ∧ df = [] ∧ h'.log = [] ∧ T.get r = some v ∧ T.get q = some u) : RunCall C S f args h ⟨.tup [v, u], h⟩ := by
  refine WRun.calls hs hF hc hn (by simp only [AV.all, allL, hv, hu, Bool.and_self]) (H.mono fun e T df h' ⟨h1, h2, h3, h4, h5⟩ => ?_)
  obtain ⟨t, nx, mk, lg⟩ := h'
  subst h2
  have h3 : lg = [] := h3
  subst h3
  refine ⟨t, nx, mk, ?_⟩
  unfold atEnd
  cases e <;> first | (exact h1.elim; done) | (simp only [dropMarks, hres, ressOf, resOf, h4, h5]; rfl)
end
end Go.Ev
namespace Go.Ev
section
variable {C : Ctx} {S : Summ} {n : Nat} {df : List Nat} {T : PT AV} {h : AH} {ops l : List Oper} {op : Op} {t : TypeId} {pos : String} {af : Array Edge} {d : Option Nat} {K : PT AV → AH → Prop}
def okDst (n : Nat) (d : Option Nat) : Bool :=
  match d with
  | some d => Nat.blt d n
  | none => true
/-- What must hold behind an operation that has come to r. -/
def AfterR (C : Ctx) (S : Summ) (n : Nat) (ops : List Oper) (df : List Nat) (l : List Oper) (T : PT AV) (K : PT AV → AH → Prop) : Option Nat → R → Prop
  | some d, .val v h1 => WOps C S n ops df l (putD (some d) v T) h1 K
  | none, .skip h1 => WOps C S n ops df l T h1 K
  | _, _ => False
theorem WOps.a {r : R} (hd : okDst n d = true) (he : evOp op C T h = r) (H : AfterR C S n ops df l T K d r) : WOps C S n ops df (⟨d, op, t, pos, af, none⟩ :: l) T h K := by
  cases d with
  | none =>
    cases r <;> first | exact H.elim | exact WOps.eN he H
  | some d =>
    cases r <;> first | exact H.elim | exact WOps.vN he hd H
def boolE : Bool → Bool → Bool
  | true, true => true
  | false, false => true
  | _, _ => false
/-- What must hold at an operation whose guard has come to y. -/
def AfterG (C : Ctx) (S : Summ) (n : Nat) (ops : List Oper) (df : List Nat) (l : List Oper) (T : PT AV) (h : AH) (K : PT AV → AH → Prop) (p : Oper) (d : Nat) (g : Bool) : AV → Prop
  | .bool b => (match boolE b g with
    | true => WOps C S n ops df (p :: l) T h K
    | false => WOps C S n ops df l (putD (some d) (.tup []) T) h K)
  | .tup [] => WOps C S n ops df l (putD (some d) (.tup []) T) h K
  | _ => False
theorem WOps.b {i : Nat} {g : Bool} {x : Oper} {d d' : Nat} {y : AV} (hd : Nat.blt d n = true) (hx : ops[i]? = some x) (hd' : x.dst = some d') (hT : T.get d' = some y) (H : AfterG C S n ops df l T h K ⟨some d, op, t, pos, af, none⟩ d g y) :
    WOps C S n ops df (⟨some d, op, t, pos, af, some (i, g)⟩ :: l) T h K := by
  have no : ∀ H : WOps C S n ops df l (putD (some d) (.tup []) T) h K, guardOf ops T (i, g) = some false → WOps C S n ops df (⟨some d, op, t, pos, af, some (i, g)⟩ :: l) T h K := fun H hg => WOps.nG hg hd H
  unfold AfterG at H
  split at H
  · rename_i b
    have hg := guard_bool (g := g) hx hd' hT
    split at H
    · rename_i e
      have hb : (b == g) = true := by cases b <;> cases g <;> first | rfl | cases e
      rw [hb] at hg
      obtain ⟨T', h', ⟨K0, hK⟩, H⟩ := H
      refine ⟨T', h', ⟨K0, fun k hk => ?_⟩, H⟩
      have := hK k hk
      show evStep C (ev C S k) n ops _ (fun T h => evSeq C (ev C S k) n ops df l T h) T h = _
      have e2 : evSeq C (ev C S k) n ops df (⟨some d, op, t, pos, af, none⟩ :: l) T h = evStep C (ev C S k) n ops ⟨some d, op, t, pos, af, none⟩ (fun T h => evSeq C (ev C S k) n ops df l T h) T h := rfl
      rw [e2] at this
      unfold evStep at this ⊢
      rw [show wanted ops T (some (i, g)) = some true from hg]
      exact this
    · rename_i e
      have hb : (b == g) = false := by cases b <;> cases g <;> first | rfl | cases e
      rw [hb] at hg
      exact no H hg
  · exact no H (guard_not hx hd' hT)
  · exact H.elim
end
end Go.Ev
namespace Go.Ev
section
variable {C : Ctx} {S : Summ} {T : PT AV} {h : AH} {ty : PT ATy} {a : ATy} {b o off : Nat} {v x y : AV} {c : List AV} {fz t : Nat}
theorem op_box {t : TypeId} {x : Operand} : evOp (.box t x) C T h = with1 (evOpd C.G T x) fun v => evNew 0 h v.cells := rfl
theorem op_alloc {t : TypeId} : evOp (.alloc t) C T h = withT C.ty t fun a => evNew (fzNew t) h a.zero := rfl
theorem evNew_eq : evNew fz h c = .val (.ptr h.next 0) (h.add (.cells c fz)) := by
  unfold evNew
  rw [forceN_eq, forceN_eq]
theorem cells_agg {l : List AV} : AV.cells (.agg l) = l := rfl
theorem cells_int {k : IntKind} {n : Int} : AV.cells (.int k n) = [.int k n] := rfl
theorem cells_str {s : List UInt8} : AV.cells (.str s) = [.str s] := rfl
theorem cells_bool {q : Bool} : AV.cells (.bool q) = [.bool q] := rfl
theorem op_loadE {t : TypeId} {x : Operand} : evOp (.load t x) C T h = withT C.ty t fun a => with1 (evOpd C.G T x) fun p => evLoad a p h := rfl
theorem load_ptr : evLoad a (.ptr b off) h = oe .fail (h.t.get b) fun x => x.cellsE .fail fun c _ => R.ofVal h (loadAt a c off) := rfl
theorem cellsE_cells {β : Type} {d : β} {k : List AV → Nat → β} : (ABlock.cells c fz).cellsE d k = k c fz := rfl
theorem loadAt_one (ha : a.agg = false) : loadAt a c off = nth c off := by unfold loadAt; rw [ha]; rfl
theorem op_fieldAddr {t : TypeId} {x : Operand} {f : Nat} : evOp (.fieldAddr t x f) C T h = withT C.ty t fun a => with1 (evOpd C.G T x) fun x => evFieldAddr C.ty a x f h := rfl
theorem fieldAddr_eq {f : Nat} {a' : ATy} (hf : fieldOf ty a f = some (off, a')) (hs : Nat.beq a'.size 0 = false) : evFieldAddr ty a (.ptr b o) f h = .val (.ptr b (o + off)) h := by
  unfold evFieldAddr
  rw [hf]
  show cnd (Nat.beq a'.size 0) R.fail (forceN (o + off) fun o => R.val (AV.ptr b o) h) = _
  rw [hs, forceN_eq]
  rfl
theorem op_extract {x : Operand} {i : Nat} : evOp (.extract x i) C T h = with1 (evOpd C.G T x) fun x => R.ofVal h (evExtract x i) := rfl
theorem extract_tup {l : List AV} {i : Nat} : evExtract (.tup l) i = nth l i := rfl
theorem op_nilCheck {x : Operand} : evOp (.nilCheck x) C T h = with1 (evOpd C.G T x) fun v => evNilCheck v h := rfl
theorem nilCheck_ptr : evNilCheck (.ptr b o) h = .val (.ptr b o) h := rfl
theorem op_un {op : UnOp} {t : TypeId} {x : Operand} : evOp (.unOp op t x) C T h = with1 (evOpd C.G T x) fun x => R.ofVal h (evUn op x) := rfl
theorem un_not {q : Bool} : evUn .not (.bool q) = some (.bool (!q)) := by show mkB (Bool.not q) = _; rw [mkB_eq]
theorem op_lenE {x : Operand} {t : TypeId} : evOp (.call { callee := .builtin .len, args := #[x], argTypes := #[t] }) C T h = with1 (evOpd C.G T x) fun v => withT C.ty t fun a => R.ofVal h (evLen C.ty a v h) := by
  show withL (oe none (evOpd C.G T x) fun v => oe none (some []) fun vs => some (v :: vs)) _ = _
  cases evOpd C.G T x <;> rfl
theorem len_strE {s : List UInt8} (ha : a.d = .str) : evLen ty a (.str s) h = some (.int .i64 s.length) := by
  unfold evLen
  rw [ha]
  show mkI .i64 (Int.ofNat (len s)) = _
  rw [mkI_eq, len_eq]; rfl
theorem op_indexAddrE {t : TypeId} {x i : Operand} : evOp (.indexAddr t x i) C T h = withT C.ty t fun a => with2 (evOpd C.G T x) (evOpd C.G T i) fun x i => evIndexAddr C.ty a x i h := rfl
/-! Blocks -/
theorem get_add {ab : ABlock} {c : Nat} : (h.add ab).t.get c = if c = h.next then some ab else h.t.get c := PT.get_put _ _ _ _
theorem get_add_self {ab : ABlock} : (h.add ab).t.get h.next = some ab := by rw [get_add, if_pos rfl]
theorem next_add {ab : ABlock} : (h.add ab).next = h.next + 1 := rfl
theorem mark_add {ab : ABlock} : (h.add ab).mark = h.mark := rfl
theorem log_add {ab : ABlock} : (h.add ab).log = h.log := rfl
/-! Calls of functions by name -/
theorem op_call1 {f : Nat} {x : Operand} {v : AV} (hx : evOpd C.G T x = some v) {F : Func} (hF : C.fn.get f = some F) (he : C.ext.get f = none) {ts : Array TypeId} :
    evOp (.call { callee := .value (.func f), args := #[x], argTypes := ts }) C T h = .call f [v] h := by
  show withL (oe none (evOpd C.G T x) fun v => oe none (some []) fun vs => some (v :: vs)) (fun args => with1 (some (.fn f [])) fun f => evCallee C f args h) = _
  rw [hx]
  show callee C f [v] h = _
  unfold callee
  rw [he, hF]
theorem op_call2 {f : Nat} {x y : Operand} {v u : AV} (hx : evOpd C.G T x = some v) (hy : evOpd C.G T y = some u) {F : Func} (hF : C.fn.get f = some F) (he : C.ext.get f = none) {ts : Array TypeId} :
    evOp (.call { callee := .value (.func f), args := #[x, y], argTypes := ts }) C T h = .call f [v, u] h := by
  show withL (oe none (evOpd C.G T x) fun v => oe none (oe none (evOpd C.G T y) fun v => oe none (some []) fun vs => some (v :: vs)) fun vs => some (v :: vs)) (fun args => with1 (some (.fn f [])) fun f => evCallee C f args h) = _
  rw [hx, hy]
  show callee C f [v, u] h = _
  unfold callee
  rw [he, hF]
end
end Go.Ev
namespace Go.Ev
theorem RowAt.mono {h h' : AH} {v : AV} {l : List AV} (r : RowAt h v l) (hh : ∀ b x, h.t.get b = some x → h'.t.get b = some x) : RowAt h' v l := by
  rcases r with r | ⟨b, off, cap, c, fz, h1, h2, h3⟩
  · exact .inl r
  · exact .inr ⟨b, off, cap, c, fz, h1, hh b _ h2, h3⟩
end Go.Ev
namespace Go.Ev
theorem over_nil {α : Type} (l : List α) : over [] l = some l := rfl
theorem splice_one {v : AV} : ∀ (off : Nat) (c : List AV), off < c.length → splice [v] off c = some (c.set off v) := by
  intro off
  induction off with
  | zero =>
    intro c hc
    cases c with
    | nil => simp at hc
    | cons a l => rfl
  | succ o ih =>
    intro c hc
    cases c with
    | nil => simp at hc
    | cons a l =>
      have h := ih l (by simpa using hc)
      unfold splice at h ⊢
      simp only [h]
      rfl
/-- Everything that is spoken of is still so. -/
def Ext (h h' : AH) : Prop := ∀ b x, h.t.get b = some x → h'.t.get b = some x
theorem Ext.refl (h : AH) : Ext h h := fun _ _ e => e
theorem Ext.trans {h h' h'' : AH} (a : Ext h h') (b : Ext h' h'') : Ext h h'' := fun c x e => b c x (a c x e)
/-- Blocks of one's own behind those of h. -/
structure Mine (h h' : AH) : Prop where
  ext : Ext h h'
  low : ∀ b x, h.t.get b = some x → b < h.next
  lowN : ∀ b x, h'.t.get b = some x → b < h'.next
  next : h.next ≤ h'.next
  mark : h'.mark = h.next
  log : h'.log = []
theorem Mine.start {h : AH} (low : ∀ b x, h.t.get b = some x → b < h.next) : Mine h ⟨h.t, h.next, h.next, []⟩ := ⟨fun _ _ e => e, low, low, Nat.le_refl _, rfl, rfl⟩
theorem Mine.add {h h' : AH} (o : Mine h h') (ab : ABlock) : Mine h (h'.add ab) :=
  ⟨fun b x e => by
    have := o.low b x e
    have := o.next
    rw [get_add, if_neg (by omega)]
    exact o.ext b x e, o.low, fun b x e => by
    rw [get_add] at e
    rw [next_add]
    split at e
    · omega
    · have := o.lowN b x e; omega, by rw [next_add]; have := o.next; omega, by rw [mark_add]; exact o.mark, by rw [log_add]; exact o.log⟩
theorem get_set {h : AH} {b c : Nat} {ab : ABlock} : (h.set b ab).t.get c = if c = b then some ab else h.t.get c := PT.get_put _ _ _ _
theorem next_set {h : AH} {b : Nat} {ab : ABlock} : (h.set b ab).next = h.next := rfl
theorem mark_set {h : AH} {b : Nat} {ab : ABlock} : (h.set b ab).mark = h.mark := rfl
theorem log_set {h : AH} {b : Nat} {ab : ABlock} (hb : h.mark ≤ b) : (h.set b ab).log = h.log := by
  show logged h.mark b h.log = h.log
  unfold logged
  cases e : Nat.blt b h.mark with
  | true => have := blt_iff.1 e; omega
  | false => rfl
theorem Mine.set {h h' : AH} (o : Mine h h') {b : Nat} (hb : h.next ≤ b) (hb' : b < h'.next) (ab : ABlock) : Mine h (h'.set b ab) :=
  ⟨fun c x e => by
    have := o.low c x e
    rw [get_set, if_neg (by omega)]
    exact o.ext c x e, o.low, fun c x e => by
    rw [get_set] at e
    rw [next_set]
    split at e
    · omega
    · exact o.lowN c x e, by rw [next_set]; exact o.next, by rw [mark_set]; exact o.mark, by rw [log_set (by rw [o.mark]; exact hb)]; exact o.log⟩
section
variable {C : Ctx} {T : PT AV} {h : AH} {ty : PT ATy} {a ae : ATy} {b off n e : Nat} {v : AV} {c : List AV} {fz : Nat}
theorem op_storeE {t : TypeId} {x v : Operand} : evOp (.store t x v) C T h = withT C.ty t fun a => with2 (evOpd C.G T x) (evOpd C.G T v) fun p v => evStore a p v h := rfl
theorem store_word (h1 : a.size = 1) (hv : v.cells = [v]) (ho : v.one = true) (hb : h.t.get b = some (.cells c fz)) (hf : fz / 65536 ≤ off) (hlt : off < c.length) :
    evStore a (.ptr b off) v h = .skip (h.set b (.cells (c.set off v) fz)) := by
  unfold evStore
  show cnd (Nat.beq (len v.cells) a.size) (R.ofSkip (writeCells h b off v.cells)) .fail = _
  rw [hv, h1]
  show R.ofSkip (writeCells h b off [v]) = _
  have : writeCells h b off [v] = some (h.set b (.cells (c.set off v) fz)) := by
    unfold writeCells cellsAt
    rw [hb]
    show cnd (Nat.ble (Nat.div fz 65536) off && allOne [v]) (oe none (splice [v] off c) fun c' => some (h.set b (.cells c' fz))) none = _
    have h1 : Nat.ble (Nat.div fz 65536) off = true := ble_iff.2 hf
    have h2 : allOne [v] = true := by
      show cnd v.one true false = true
      rw [ho]; rfl
    rw [h1, h2]
    show oe none (splice [v] off c) _ = _
    rw [splice_one off c hlt]
    rfl
  rw [this]
  rfl
theorem indexArr (ha : a.d = .array n e) (he : ty.get e = some ae) (h1 : ae.size = 1) {i : Nat} (hi : i < n) : evIndexAddr ty a (.ptr b off) (.int .i64 i) h = .val (.ptr b (off + i)) h := by
  unfold evIndexAddr elemOf
  rw [ha]
  show oe R.fail (oe none (ty.get e) fun a => some (some n, a)) _ = _
  rw [he]
  have hx : idx (.int .i64 (i : Int)) n = some i := by
    show cnd (Nat.blt i n) (some i) none = _
    rw [blt_iff.2 hi]; rfl
  show oe R.fail (idx (.int .i64 (i : Int)) n) (fun i => forceN (Nat.add off (Nat.mul i ae.size)) fun o => R.val (AV.ptr b o) h) = _
  rw [hx, h1]
  show forceN (off + i * 1) (fun o => R.val (AV.ptr b o) h) = _
  rw [forceN_eq, Nat.mul_one]
theorem load_word (ha : a.agg = false) (hb : h.t.get b = some (.cells c fz)) (hc : c[off]? = some v) : evLoad a (.ptr b off) h = .val v h := by
  rw [load_ptr, hb]
  show R.ofVal h (loadAt a c off) = _
  rw [loadAt_one ha, nth_eq, hc]
  rfl
end
end Go.Ev
namespace Go.Ev
theorem takeN_all {α : Type} : ∀ l : List α, takeN l.length l = some l := by
  intro l
  induction l with
  | nil => rfl
  | cons a l ih =>
    unfold takeN at ih ⊢
    simp only [List.length_cons, ih]
section
variable {C : Ctx} {S : Summ} {T : PT AV} {h : AH} {ty : PT ATy} {a ae : ATy} {e b n k fz : Nat} {x : AV} {c xs : List AV}
/-- What an append asks of its element type: words, small. -/
structure Word (a ae : ATy) (ty : PT ATy) (e : Nat) : Prop where
  d : a.d = .slice e
  get : ty.get e = some ae
  size : ae.size = 1
  bytes : 0 < ae.bytes
  small : ae.bytes ≤ 1024
  zero : ae.zero.length = 1
theorem append_pre (W : Word a ae ty e) (hk : lenOf x = some k) (hx : elems h 1 k x = some xs) (hl : xs.length = k) (s : AV) :
    evAppend ty a s x h = (match s with
          | .nils => cnd (Nat.beq k 0) (.val .nils h) (cnd (Nat.ble k limit) (appendNew e ae s 0 k xs h) .fail)
          | .slice b off n c => forceN (Nat.add n k) fun need => cnd (Nat.ble need c) (appendHere (.slice b off need c) b (Nat.add off (Nat.mul n ae.size)) xs h)
              (cnd (Nat.ble need limit && Nat.ble c limit) (appendNew e ae s n need xs h) .fail)
          | .sliceU b off n es => forceN (Nat.add n k) fun need => cnd (Nat.beq es ae.size && Nat.ble need limit) (match known h b with
              | some (c, fz) => appendOpen e ae b off n need c fz xs h
              | none => .fail) .fail
          | _ => .fail) := by
  unfold evAppend
  simp only [W.d, W.get, hk, W.size, hx]
  have h1 : Nat.blt 0 1 = true := rfl
  have h2 : Nat.blt 0 ae.bytes = true := blt_iff.2 W.bytes
  have h3 : Nat.ble ae.bytes 1024 = true := ble_iff.2 W.small
  have h4 : Nat.beq (len ae.zero) 1 = true := by rw [len_eq, W.zero]; rfl
  have h5 : Nat.beq (len xs) (Nat.mul k 1) = true := by
    rw [len_eq, hl]
    show Nat.beq k (k * 1) = true
    rw [Nat.mul_one]
    simp
  rw [h1, h2, h3, h4, h5]
  rfl
theorem append_nils (W : Word a ae ty e) (hk : lenOf x = some k) (hx : elems h 1 k x = some xs) (hl : xs.length = k) (h0 : 0 < k) (h1 : k ≤ 16777216) :
    evAppend ty a .nils x h = .val (.sliceU h.next 0 k 1) (h.add (.cells xs (fzNew e))) := by
  rw [append_pre W hk hx hl]
  show cnd (Nat.beq k 0) (.val .nils h) (cnd (Nat.ble k limit) (appendNew e ae .nils 0 k xs h) .fail) = _
  have e1 : Nat.beq k 0 = false := by cases k with | zero => omega | succ k => rfl
  have e2 : Nat.ble k limit = true := ble_iff.2 h1
  rw [e1, e2]
  show appendNew e ae .nils 0 k xs h = _
  unfold appendNew
  have he : elems h ae.size 0 .nils = some [] := rfl
  rw [he]
  show forceL ([] ++ xs) (fun l => forceN h.next fun b => forceN (fzNew e) fun fz => R.val (.sliceU b 0 k ae.size) (h.add (.cells l fz))) = _
  rw [forceL_eq, forceN_eq, forceN_eq, W.size]
  rfl
theorem append_nils0 (W : Word a ae ty e) (hk : lenOf x = some 0) (hx : elems h 1 0 x = some []) : evAppend ty a .nils x h = .val .nils h := by
  rw [append_pre W hk hx rfl]
  rfl
theorem append_open (W : Word a ae ty e) (hk : lenOf x = some k) (hx : elems h 1 k x = some xs) (hl : xs.length = k) (h0 : 0 < k) (h1 : n + k ≤ 16777216) (hb : h.t.get b = some (.cells c fz)) (hc : c.length = n)
    (hf : fz / 65536 ≤ n) (ho : allOne xs = true) : evAppend ty a (.sliceU b 0 n 1) x h = .val (.sliceU h.next 0 (n + k) 1) ((h.del b).add (.cells (c ++ xs) (fzMove fz 0 e))) := by
  rw [append_pre W hk hx hl]
  show forceN (n + k) (fun need => cnd (Nat.beq 1 ae.size && Nat.ble need limit) (match known h b with
              | some (c, fz) => appendOpen e ae b 0 n need c fz xs h
              | none => .fail) R.fail) = _
  rw [forceN_eq]
  have e1 : Nat.beq 1 ae.size = true := by rw [W.size]; rfl
  have e2 : Nat.ble (n + k) limit = true := ble_iff.2 h1
  have e3 : known h b = some (c, fz) := by unfold known; rw [hb]
  rw [e1, e2]
  show (match known h b with | some (c, fz) => appendOpen e ae b 0 n (n + k) c fz xs h | none => .fail) = _
  rw [e3]
  show appendOpen e ae b 0 n (n + k) c fz xs h = _
  unfold appendOpen
  have e4 : Nat.ble (Nat.add 0 (Nat.mul (n + k) ae.size)) (len c) = false := by
    rw [W.size, len_eq]
    cases q : Nat.ble (Nat.add 0 (Nat.mul (n + k) 1)) c.length with
    | false => rfl
    | true =>
      have q : 0 + (n + k) * 1 ≤ c.length := ble_iff.1 q
      omega
  have e5 : Nat.ble (Nat.div fz 65536) (Nat.add 0 (Nat.mul n ae.size)) = true := by
    rw [W.size]
    refine ble_iff.2 ?_
    show fz / 65536 ≤ 0 + n * 1
    omega
  have e6 : Nat.ble (Nat.add 0 (Nat.mul n ae.size)) (len c) = true := by
    rw [W.size, len_eq]
    refine ble_iff.2 ?_
    show 0 + n * 1 ≤ c.length
    omega
  have e7 : sub c 0 (Nat.mul n ae.size) = some c := by
    rw [W.size]
    show takeN (n * 1) c = some c
    rw [Nat.mul_one, ← hc]
    exact takeN_all c
  rw [e4]
  show cnd (Nat.ble (Nat.div fz 65536) (Nat.add 0 (Nat.mul n ae.size)) && allOne xs && Nat.ble (Nat.add 0 (Nat.mul n ae.size)) (len c)) _ _ = _
  rw [e5, ho, e6, e7]
  show forceL (c ++ xs) (fun l => forceN h.next fun c => forceN (fzMove fz 0 e) fun fz => R.val (.sliceU c 0 (n + k) ae.size) ((h.del b).add (.cells l fz))) = _
  rw [forceL_eq, forceN_eq, forceN_eq, W.size]
theorem append_open0 (W : Word a ae ty e) (hk : lenOf x = some 0) (hx : elems h 1 0 x = some []) (h1 : n ≤ 16777216) (hb : h.t.get b = some (.cells c fz)) (hc : n ≤ c.length) :
    evAppend ty a (.sliceU b 0 n 1) x h = .val (.sliceU b 0 n 1) h := by
  rw [append_pre W hk hx rfl]
  show forceN (n + 0) (fun need => cnd (Nat.beq 1 ae.size && Nat.ble need limit) (match known h b with
              | some (c, fz) => appendOpen e ae b 0 n need c fz [] h
              | none => .fail) R.fail) = _
  rw [forceN_eq]
  have e1 : Nat.beq 1 ae.size = true := by rw [W.size]; rfl
  have e2 : Nat.ble (n + 0) limit = true := ble_iff.2 h1
  have e3 : known h b = some (c, fz) := by unfold known; rw [hb]
  rw [e1, e2]
  show (match known h b with | some (c, fz) => appendOpen e ae b 0 n (n + 0) c fz [] h | none => .fail) = _
  rw [e3]
  show appendOpen e ae b 0 n (n + 0) c fz [] h = _
  unfold appendOpen
  have e4 : Nat.ble (Nat.add 0 (Nat.mul (n + 0) ae.size)) (len c) = true := by
    rw [W.size, len_eq]
    refine ble_iff.2 ?_
    show 0 + (n + 0) * 1 ≤ c.length
    omega
  rw [e4]
  show R.val (.sliceU b 0 (n + 0) ae.size) h = _
  rw [W.size]
  rfl
/-- A row's words, read as a list, from the head on. -/
theorem elems_str {s : List UInt8} : elems h 1 s.length (.str s) = some (s.map fun c : UInt8 => AV.int .u8 (Int.ofNat c.toNat)) := by
  show (match takeN s.length s with | some r => some (r.map fun c : UInt8 => AV.int .u8 (Int.ofNat c.toNat)) | none => none) = _
  rw [takeN_all]
theorem lenOf_str {s : List UInt8} : lenOf (.str s) = some s.length := by show some (len s) = _; rw [len_eq]
theorem op_append {x y : Operand} {t t2 : TypeId} {u v : AV} {a2 : ATy} (hx : evOpd C.G T x = some u) (hy : evOpd C.G T y = some v) (ht : C.ty.get t = some a) (ht2 : C.ty.get t2 = some a2) (hs : a2.d.isSeq = true) :
    evOp (.call { callee := .builtin .append, args := #[x, y], argTypes := #[t, t2] }) C T h = evAppend C.ty a u v h := by
  show withL (oe none (evOpd C.G T x) fun v => oe none (oe none (evOpd C.G T y) fun v => oe none (some []) fun vs => some (v :: vs)) fun vs => some (v :: vs)) (fun args => withT C.ty t fun a => evBuiltin .append C.ty a [t2] args h) = _
  rw [hx, hy]
  show withT C.ty t (fun a => evBuiltin .append C.ty a [t2] [u, v] h) = _
  rw [withT_some ht]
  show cnd (oe false (C.ty.get t2) fun a => a.d.isSeq) (evAppend C.ty a u v h) .fail = _
  rw [ht2]
  show cnd a2.d.isSeq _ _ = _
  rw [hs]
  rfl
theorem op_ext1 {f k : Nat} {x : Operand} {v : AV} (hx : evOpd C.G T x = some v) (he : C.ext.get f = some k) {ts : Array TypeId} :
    evOp (.call { callee := .value (.func f), args := #[x], argTypes := ts }) C T h = evExt k [v] h := by
  show withL (oe none (evOpd C.G T x) fun v => oe none (some []) fun vs => some (v :: vs)) (fun args => with1 (some (.fn f [])) fun f => evCallee C f args h) = _
  rw [hx]
  show callee C f [v] h = _
  unfold callee
  rw [he]
theorem op_convertE {s d : TypeId} {x : Operand} : evOp (.convert s d x) C T h = withT C.ty s fun s => withT C.ty d fun d => with1 (evOpd C.G T x) fun x => evConvert C.ty s d x h := rfl
theorem conv_to {s d : ATy} {t : Nat} {at' : ATy} {b o : Nat} (hd : d.d = .uptr) (hs : s.d = .ptr t) (ht : ty.get t = some at') (hz : 0 < at'.size) (hb : h.t.get b = some (.cells c fz)) (ho : o < c.length) :
    evConvert ty s d (.ptr b o) h = .val (.ptr b o) h := by
  have e3 : known h b = some (c, fz) := by unfold known; rw [hb]
  unfold evConvert
  simp only [hd, hs, ht, e3, len_eq]
  rw [blt_iff.2 hz, blt_iff.2 ho]
  rfl
theorem conv_of {s d : ATy} {u : Nat} {au : ATy} {b : Nat} (hd : d.d = .ptr u) (hs : s.d = .uptr) (hu : ty.get u = some au) (hz : 0 < au.size) (hb : h.t.get b = some (.cells c fz)) (hf : fz % 65536 = u + 1) (hn : au.size ≤ c.length) :
    evConvert ty s d (.ptr b 0) h = .val (.ptr b 0) h := by
  have e3 : known h b = some (c, fz) := by unfold known; rw [hb]
  unfold evConvert
  simp only [hd, hs, hu, e3, len_eq]
  have e1 : Nat.beq (Nat.mod fz 65536) (Nat.succ u) = true := by
    show Nat.beq (fz % 65536) (u + 1) = true
    rw [hf]
    simp
  rw [e1, blt_iff.2 hz, ble_iff.2 hn]
  rfl
/-! Calls that write -/
variable {fn : FuncId} {cd : Code}
theorem mergeLog_none {m : Nat} {l : List Nat} : ∀ {lg : List Nat}, (∀ b ∈ lg, m ≤ b) → mergeLog m l lg = l
  | [], _ => rfl
  | b :: lg, hb => by
    show logged m b (mergeLog m l lg) = l
    rw [mergeLog_none fun c hc => hb c (List.mem_cons_of_mem _ hc)]
    have := hb b List.mem_cons_self
    unfold logged
    cases e : Nat.blt b m with
    | true => have := blt_iff.1 e; omega
    | false => rfl
/-- A function that has written old blocks. -/
theorem WRun.callsW {f : FuncId} {args : List AV} {F : Func} {v : AV} {h' : AH} (hs : S.get f = none) (hF : C.fn.get f = some F) (hc : F.body = some cd) (hn : Nat.ble (len args) F.ntmps = true) (hm : h'.mark = h.mark)
    (H : WRun C S f F.ntmps none cd (argsT args 0 .leaf) [] ⟨h.t, h.next, h.next, []⟩ fun e T df h1 => atEnd C F ⟨e, T, df, h1⟩ = .one ⟨v, h1⟩ ∧ h1.t = h'.t ∧ h1.next = h'.next ∧ h1.log ≠ [] ∧ mergeLog h.mark h.log h1.log = h'.log) : RunCall C S f args h ⟨v, h'⟩ := by
  obtain ⟨e, T', df', h1, g1, g2, g3, g4, g5, g6⟩ := H
  refine RunCall.enter hs hF hc hn g1 g2 ?_
  obtain ⟨t, nx, mk, lg⟩ := h1
  obtain ⟨t', nx', mk', lg'⟩ := h'
  have g3 : t = t' := g3
  have g4 : nx = nx' := g4
  have hm : mk' = h.mark := hm
  have g6 : mergeLog h.mark h.log lg = lg' := g6
  subst g3 g4 hm
  cases lg with
  | nil => exact absurd rfl g5
  | cons b l =>
    show Res.one (V.mk v ⟨t, nx, h.mark, mergeLog h.mark h.log (b :: l)⟩) = _
    rw [g6]
theorem atEnd0 {F : Func} {e : X} {T : PT AV} (he : (match e with | .norm => True | .ret => True | _ => False)) (hres : F.results.toList = []) : atEnd C F ⟨e, T, [], h⟩ = .one ⟨.tup [], h⟩ := by
  unfold atEnd
  cases e <;> first | (exact he.elim; done) | (simp only [dropMarks, hres, ressOf]; rfl)
theorem atEnd1 {F : Func} {e : X} {T : PT AV} {r : Nat} {v : AV} (he : (match e with | .norm => True | .ret => True | _ => False)) (hres : F.results.toList = [.tmp r]) (hT : T.get r = some v) : atEnd C F ⟨e, T, [], h⟩ = .one ⟨v, h⟩ := by
  unfold atEnd
  cases e <;> first | (exact he.elim; done) | (simp only [dropMarks, hres, ressOf, resOf, hT]; rfl)
theorem atEnd2 {F : Func} {e : X} {T : PT AV} {r q : Nat} {v u : AV} (he : (match e with | .norm => True | .ret => True | _ => False)) (hres : F.results.toList = [.tmp r, .tmp q]) (hT : T.get r = some v) (hq : T.get q = some u) :
    atEnd C F ⟨e, T, [], h⟩ = .one ⟨.tup [v, u], h⟩ := by
  unfold atEnd
  cases e <;> first | (exact he.elim; done) | (simp only [dropMarks, hres, ressOf, resOf, hT, hq]; rfl)
theorem fzMove_tag {fz e : Nat} (he : e + 1 < 65536) (h : fz % 65536 = e + 1) : fzMove fz 0 e % 65536 = e + 1 := by
  unfold fzMove
  have h1 : Nat.blt (Nat.succ e) 65536 = true := blt_iff.2 he
  have h2 : Nat.beq (Nat.mod fz 65536) (Nat.succ e) = true := by
    show Nat.beq (fz % 65536) (e + 1) = true
    rw [h]; simp
  rw [h1, h2]
  show ((fz / 65536 - 0) * 65536 + (e + 1)) % 65536 = e + 1
  omega
theorem get_del {b c : Nat} : (h.del b).t.get c = if c = b then none else h.t.get c := PT.get_put _ _ _ _
theorem next_del {b : Nat} : (h.del b).next = h.next := rfl
theorem mark_del {b : Nat} : (h.del b).mark = h.mark := rfl
theorem log_del {b : Nat} : (h.del b).log = logged h.mark b h.log := rfl
theorem log_setE {b : Nat} {ab : ABlock} : (h.set b ab).log = logged h.mark b h.log := rfl
theorem op_buildSlice1 {t : TypeId} {x : Operand} {v : AV} {a ae : ATy} {e : Nat} {ts : Array (Nat × Operand)} (hts : ts.toList = [(0, x)]) (hx : evOpd C.G T x = some v) (ht : C.ty.get t = some a) (W : Word a ae C.ty e) (hs : Nat.ble ae.size 256 = true) (hv : v.cells = [v]) :
    evOp (.buildSlice t 1 ts) C T h = .val (.slice h.next 0 1 1) (h.add (.cells [v] 0)) := by
  show withT C.ty t (fun a => withL (evParts C.G T ts.toList) fun ps => evBuildSlice C.ty a 1 ps h) = _
  rw [withT_some ht, hts]
  show withL (oe none (evOpd C.G T x) fun v => oe none (some []) fun vs => some ((0, v) :: vs)) _ = _
  rw [hx]
  show evBuildSlice C.ty a 1 [(0, v)] h = _
  unfold evBuildSlice
  simp only [W.d, W.get]
  obtain ⟨z, hz⟩ : ∃ z, ae.zero = [z] := by
    have := W.zero
    match hh : ae.zero, this with
    | [z], _ => exact ⟨z, rfl⟩
  have e1 : Nat.beq (len ae.zero) ae.size = true := by rw [len_eq, W.zero, W.size]; rfl
  have e2 : fillRow ae.size [(0, v)] (times ae.zero 1) = some [v] := by
    rw [W.size, hz]
    unfold fillRow
    rw [hv]
    rfl
  have e3 : Nat.blt 0 ae.size = true := by rw [W.size]; rfl
  rw [e1, e2, e3, hs]
  show forceN h.next (fun b => R.val (.slice b 0 1 1) (h.add (.cells [v] 0))) = _
  rw [forceN_eq]
end
end Go.Ev
namespace Go.Ev
section
variable {C : Ctx} {S : Summ} {fn : FuncId} {n : Nat} {rd : Option Nat} {T : PT AV} {df : List Nat} {h : AH} {a b : Code} {Q : Post}
/-- Where ways meet. -/
theorem WRun.mid {M : PT AV → AH → Prop} (H : WRun C S fn n rd a T df h fun e T1 df1 h1 => (match e with | .norm => df1 = df ∧ M T1 h1 | e => Q e T1 df1 h1)) (hb : ∀ T1 h1, M T1 h1 → WRun C S fn n rd b T1 df h1 Q) :
    WRun C S fn n rd (.seq a b) T df h Q := by
  refine WRun.seq (H.mono fun e T1 df1 h1 h2 => ?_)
  cases e with
  | norm => obtain ⟨rfl, h2⟩ := h2; exact hb T1 h1 h2
  | exit i => exact h2
  | goto i => exact h2
  | ret => exact h2
end
end Go.Ev
namespace Go.Ev
section
variable {C : Ctx} {S : Summ} {fn : FuncId} {n : Nat} {rd : Option Nat} {T T1 T2 : PT AV} {df df2 : List Nat} {h h1 h2 : AH} {o : O} {a b : Code} {Q : Post} {v u : AV}
/-- The consumer's round. -/
def RunYield (C : Ctx) (S : Summ) (l : Nat) (args : List AV) (h : AH) (r : V) : Prop := ∃ K, ∀ k, K ≤ k → evYield (ev C S k) l args h = .one r
theorem RunYield.mk {l : Nat} {args : List AV} {pend p2 : Option Code} {f2 n2 d d2 : Nat} {T' : PT AV} {ps ps2 : Array Tmp} {as bd as2 bd2 : Code} {r : V}
    (hl : h.t.get l = some (.loop .ready pend fn n T ps as bd d)) (hp : setParams n ps.toList args T = some T1) (ha : Run C S fn n (some l) as T1 [] h ⟨.norm, T2, df2, h2⟩)
    (hl2 : h2.t.get l = some (.loop .ready p2 f2 n2 T' ps2 as2 bd2 d2)) (hb : Run C S fn n (some l) bd T2 df2 (h2.set l (.loop .busy p2 f2 n2 T' ps2 as2 bd2 d2)) o) (he : roundEnd l o = .one r) : RunYield C S l args h r := by
  obtain ⟨K1, hK1⟩ := ha
  obtain ⟨K2, hK2⟩ := hb
  refine ⟨max K1 K2, fun k hk => ?_⟩
  unfold evYield
  rw [hl]
  simp only [hp]
  rw [hK1 k (by omega)]
  show isNorm X.norm (match h2.t.get l with
        | some (.loop .ready pend fn' n' T' ps assign' body' df) =>
          Res.bind ((ev C S k).code ⟨fn, n, some l, 0⟩ bd T2 df2 (h2.set l (.loop .busy pend fn' n' T' ps assign' body' df))) fun o => roundEnd l o
        | _ => Res.fail) Res.fail = _
  rw [hl2]
  show Res.bind ((ev C S k).code _ bd _ _ _) _ = _
  rw [hK2 k (by omega)]
  exact he
/-- .. by what must hold behind the body. -/
theorem RunYield.wp {l : Nat} {args : List AV} {pend : Option Code} {d : Nat} {ps : Array Tmp} {as bd : Code} {K : V → Prop}
    (hl : h.t.get l = some (.loop .ready pend fn n T ps as bd d)) (hp : setParams n ps.toList args T = some T1)
    (ha : WRun C S fn n (some l) as T1 [] h fun e T2 df2 h2 => e = .norm ∧ h2 = h ∧ df2 = [] ∧ WRun C S fn n (some l) bd T2 [] (h.set l (.loop .busy pend fn n T ps as bd d)) fun e T3 df3 h3 => ∃ r, roundEnd l ⟨e, T3, df3, h3⟩ = .one r ∧ K r) :
    ∃ r, RunYield C S l args h r ∧ K r := by
  obtain ⟨e, T2, df2, h2, g1, rfl, rfl, rfl, e3, T3, df3, h3, g2, r, g3, g4⟩ := ha
  exact ⟨r, .mk hl hp g1 hl g2 g3, g4⟩
theorem WOps.yN {ops l : List Oper} {op : Op} {t : TypeId} {pos : String} {af : Array Edge} {d : Nat} {K : PT AV → AH → Prop} {lp : Nat} {args : List AV} (he : evOp op C T h = .yield lp args h1) (hc : RunYield C S lp args h1 ⟨v, h2⟩) (hd : Nat.blt d n = true)
    (H : WOps C S n ops df l (putD (some d) v T) h2 K) : WOps C S n ops df (⟨some d, op, t, pos, af, none⟩ :: l) T h K := by
  obtain ⟨T', h', ⟨K1, hK1⟩, g2⟩ := H
  obtain ⟨K2, hK2⟩ := hc
  refine ⟨T', h', ⟨max K1 K2, fun k hk => ?_⟩, g2⟩
  show evStep C (ev C S k) n ops ⟨some d, op, t, pos, af, none⟩ (fun T h => evSeq C (ev C S k) n ops df l T h) T h = _
  unfold evStep
  show opThen _ (evOp op C T h) _ = _
  rw [he]
  show Res.bind (evYield (ev C S k) lp args h1) _ = _
  rw [hK2 k (by omega)]
  show putTmp n (some d) v T (fun T => evSeq C (ev C S k) n ops df l T h2) = _
  rw [putTmp_run (fun s e => by cases e; exact hd)]
  exact hK1 k (by omega)
theorem op_callV1 {f x : Operand} {l : Nat} (hf : evOpd C.G T f = some (.yield l)) (hx : evOpd C.G T x = some v) {ts : Array TypeId} : evOp (.call { callee := .value f, args := #[x], argTypes := ts }) C T h = .yield l [v] h := by
  show withL (oe none (evOpd C.G T x) fun v => oe none (some []) fun vs => some (v :: vs)) (fun args => with1 (evOpd C.G T f) fun f => evCallee C f args h) = _
  rw [hx, hf]
  rfl
theorem op_makeFunc3 {f : Nat} {x y z : Operand} {w : AV} (hx : evOpd C.G T x = some u) (hy : evOpd C.G T y = some v) (hz : evOpd C.G T z = some w) : evOp (.makeFunc (.func f) #[] #[x, y, z]) C T h = .val (.fn f [u, v, w]) h := by
  show withL (some []) (fun first => withL (oe none (evOpd C.G T x) fun v => oe none (oe none (evOpd C.G T y) fun v => oe none (oe none (evOpd C.G T z) fun v => oe none (some []) fun vs => some (v :: vs)) fun vs => some (v :: vs)) fun vs => some (v :: vs))
    fun caps => evMakeFunc (.func f) first caps h) = _
  rw [hx, hy, hz]
  rfl
theorem op_call3 {f : Nat} {x y z : Operand} {w : AV} (hx : evOpd C.G T x = some u) (hy : evOpd C.G T y = some v) (hz : evOpd C.G T z = some w) {F : Func} (hF : C.fn.get f = some F) (he : C.ext.get f = none) {ts : Array TypeId} :
    evOp (.call { callee := .value (.func f), args := #[x, y, z], argTypes := ts }) C T h = .call f [u, v, w] h := by
  show withL (oe none (evOpd C.G T x) fun v => oe none (oe none (evOpd C.G T y) fun v => oe none (oe none (evOpd C.G T z) fun v => oe none (some []) fun vs => some (v :: vs)) fun vs => some (v :: vs)) fun vs => some (v :: vs))
    (fun args => with1 (some (.fn f [])) fun f => evCallee C f args h) = _
  rw [hx, hy, hz]
  show callee C f [u, v, w] h = _
  unfold callee
  rw [he, hF]
/-- The loop, in a frame. -/
theorem WRun.range {f : Operand} {g : Nat} {c : AV} {caps : List AV} {ps : Array Tmp} {F : Func} {d : Nat} {dfs : List Nat} {h0 : AH} (hf : evOpd C.G T f = some (.fn g (c :: caps))) (hF : C.fn.get g = some F) (hx : C.ext.get g = none)
    (hr : (rd = none ∧ d = h.next ∧ dfs = h.next :: df ∧ h0 = h.add .deferred) ∨ (∃ l s p f' n' T' ps' a' b', rd = some l ∧ h.t.get l = some (.loop s p f' n' T' ps' a' b' d) ∧ dfs = df ∧ h0 = h))
    (hc : RunCall C S g (.yield h0.next :: c :: caps) (h0.add (.loop .ready none fn n T ps a b d)) ⟨v, h2⟩) (he : endLoop h0.next T dfs h2 = .one o) (hq : Q o.x o.T o.df o.h) : WRun C S fn n rd (.rangeFunc f ps a b) T df h Q := by
  have key : ∀ (cx : FC) k, cx.fn = fn → cx.n = n → evLoop C (ev C S k) cx (.fn g (c :: caps)) ps a b T dfs d h0 = Res.bind ((ev C S k).call g (.yield h0.next :: c :: caps) (h0.add (.loop .ready none fn n T ps a b d))) fun r => endLoop h0.next T dfs r.h := by
    intro cx k e1 e2
    subst e1 e2
    unfold evLoop
    have : evCallee C (.fn g (c :: caps)) [.yield h0.next] (h0.add (.loop .ready none cx.fn cx.n T ps a b d)) = .call g (.yield h0.next :: c :: caps) (h0.add (.loop .ready none cx.fn cx.n T ps a b d)) := by
      show forceL ([AV.yield h0.next] ++ c :: caps) (fun args => callee C g args _) = _
      rw [forceL_eq]
      show callee C g _ _ = _
      unfold callee
      rw [hx, hF]
      rfl
    rw [this]
  obtain ⟨K, hK⟩ := hc
  refine ⟨o.x, o.T, o.df, o.h, .of_succ ⟨K, fun k hk live => ?_⟩, hq⟩
  show oe Res.fail (evOpd C.G T f) _ = _
  rw [hf]
  show evRangeFunc C (ev C S k) ⟨fn, n, rd, live⟩ (.fn g (c :: caps)) ps a b T df h = _
  unfold evRangeFunc
  rcases hr with ⟨rfl, rfl, rfl, rfl⟩ | ⟨l, s, p, f', n', T', ps', a', b', rfl, hl, rfl, rfl⟩
  · show evLoop C (ev C S k) _ _ _ _ _ _ _ _ _ = _
    rw [key _ k rfl rfl, hK k hk]
    exact he
  · simp only [hl]
    rw [key _ k rfl rfl, hK k hk]
    exact he
/-- A call whose result names a new block and that has written no old one. -/
theorem behind_new {v : AV} {t : PT ABlock} {nx mk : Nat} (hv : (v.all fun b => Nat.blt b h.next) = false) : behind h (.one ⟨v, ⟨t, nx, mk, []⟩⟩) = .one ⟨v, ⟨t, nx, h.mark, h.log⟩⟩ := by
  show cnd (v.all fun b => Nat.blt b h.next) _ (Res.one _) = _
  rw [hv]; rfl
theorem WRun.callsN {f : FuncId} {args : List AV} {F : Func} {v : AV} {t : PT ABlock} {nx mk : Nat} (hs : S.get f = none) (hF : C.fn.get f = some F) (hc : F.body = some a) (hn : Nat.ble (len args) F.ntmps = true) (hv : (v.all fun b => Nat.blt b h.next) = false)
    (H : WRun C S f F.ntmps none a (argsT args 0 .leaf) [] ⟨h.t, h.next, h.next, []⟩ fun e T df h' => atEnd C F ⟨e, T, df, h'⟩ = .one ⟨v, ⟨t, nx, mk, []⟩⟩) : RunCall C S f args h ⟨v, ⟨t, nx, h.mark, h.log⟩⟩ := by
  obtain ⟨e, T', df', h', h1, h2⟩ := H
  exact RunCall.enter hs hF hc hn h1 h2 (behind_new hv)
/-- Parts of a string. -/
theorem natOf_int {i : Nat} : natOf (.int .i64 (i : Int)) = some i := rfl
theorem takeN_take {α : Type} : ∀ (k : Nat) (l : List α), k ≤ l.length → takeN k l = some (l.take k)
  | 0, l, _ => by cases l <;> rfl
  | k + 1, [], h => by simp at h
  | k + 1, a :: l, h => by
    have := takeN_take k l (by simpa using h)
    unfold takeN at this ⊢
    simp only [this]
    rfl
theorem dropN_drop {α : Type} : ∀ (k : Nat) (l : List α), dropN k l = l.drop k
  | 0, l => by cases l <;> rfl
  | k + 1, [] => rfl
  | k + 1, a :: l => dropN_drop k l
theorem slice_hi {a : ATy} (ha : a.d = .str) {s : List UInt8} {k : Nat} (hk : k ≤ s.length) {ty : PT ATy} : evSlice ty a (.str s) none (some (.int .i64 (k : Int))) none h = .val (.str (s.take k)) h := by
  unfold evSlice
  rw [ha]
  show R.ofVal h (sliceStr s none (some (.int .i64 (k : Int)))) = _
  have : sliceStr s none (some (.int .i64 (k : Int))) = some (.str (s.take k)) := by
    show cnd (Nat.ble 0 k && Nat.ble k (len s)) (match takeN (Nat.sub k 0) (dropN 0 s) with | some r => some (AV.str r) | none => none) none = _
    rw [len_eq, ble_iff.2 hk, ble_iff.2 (Nat.zero_le k)]
    show (match takeN k s with | some r => some (AV.str r) | none => none) = _
    rw [takeN_take k s hk]
  rw [this]
  rfl
theorem slice_lo {a : ATy} (ha : a.d = .str) {s : List UInt8} {k : Nat} (hk : k ≤ s.length) {ty : PT ATy} : evSlice ty a (.str s) (some (.int .i64 (k : Int))) none none h = .val (.str (s.drop k)) h := by
  unfold evSlice
  rw [ha]
  show R.ofVal h (sliceStr s (some (.int .i64 (k : Int))) none) = _
  have : sliceStr s (some (.int .i64 (k : Int))) none = some (.str (s.drop k)) := by
    show cnd (Nat.ble k (len s) && Nat.ble (len s) (len s)) (match takeN (Nat.sub (len s) k) (dropN k s) with | some r => some (AV.str r) | none => none) none = _
    rw [len_eq, ble_iff.2 hk, ble_iff.2 (Nat.le_refl _), dropN_drop]
    show (match takeN (s.length - k) (s.drop k) with | some r => some (AV.str r) | none => none) = _
    rw [takeN_take _ _ (by rw [List.length_drop]; exact Nat.le_refl _), List.take_of_length_le (by rw [List.length_drop]; exact Nat.le_refl _)]
  rw [this]
  rfl
theorem ofValue_nilf : ofValue .nilFunc = some .nilf := rfl
theorem op_slice {t : TypeId} {x : Operand} {lo hi mx : Option Operand} : evOp (.slice t x lo hi mx) C T h = withT C.ty t fun a => with1 (evOpd C.G T x) fun x => optOpd C.G T lo fun lo => optOpd C.G T hi fun hi => optOpd C.G T mx fun mx => evSlice C.ty a x lo hi mx h := rfl
theorem optOpd_none {k : Option AV → R} : optOpd C.G T none k = k none := rfl
theorem optOpd_some {x : Operand} {k : Option AV → R} : optOpd C.G T (some x) k = with1 (evOpd C.G T x) fun v => k (some v) := rfl
end
end Go.Ev
namespace Go.Ev
section
variable {C : Ctx} {S : Summ} {ih : Ev} {ops : List Oper} {bl : List Nat} {T : PT AV} {t : PT ABlock} {nx n : Nat}
/-- Which operations write slot d: those ahead of number k must be bound to stand ahead, those behind it to stand behind. -/
noncomputable def writersOk (bl : List Nat) (k bk d : Nat) : Nat → List Oper → Bool
  | _, [] => true
  | j, o :: l => (match o.dst with
    | some e => Bool.not (Nat.beq e d) || Nat.beq j k || (cnd (Nat.blt j k) (Nat.testBit bk j) (Nat.testBit (match nth bl j with | some b => b | none => 0) k))
    | none => true) && writersOk bl k bk d (j + 1) l
noncomputable def slotsOk (ops : List Oper) (bl : List Nat) (k bk : Nat) : List Operand → Bool
  | [] => true
  | .tmp d :: l => writersOk bl k bk d 0 ops && slotsOk ops bl k bk l
  | _ :: l => slotsOk ops bl k bk l
noncomputable def readsOk (ops : List Oper) (bl : List Nat) : Nat → List Oper → Bool
  | _, [] => true
  | k, o :: l => (match o.guard, nth bl k with
    | none, some b => slotsOk ops bl k b o.op.operands.toList
    | _, _ => false) && readsOk ops bl (k + 1) l
noncomputable def dstOk (n : Nat) : List Oper → Bool
  | [] => true
  | o :: l => (match o.dst with
    | some d => Nat.blt d n
    | none => true) && dstOk n l
noncomputable def dstsO : List Oper → Bool
  | [] => true
  | o :: l => (match o.dst with
    | some d => (l.all fun x => match x.dst with
      | some e => Bool.not (Nat.beq d e)
      | none => true)
    | none => true) && dstsO l
noncomputable def pureOk (ty : PT ATy) (n : Nat) (ops : List Oper) : Bool :=
  Bool.not (isSeq ty ops) && backEdges ops 0 && dstsO ops && dstOk n ops && readsOk ops (bitsL ops []) 0 ops
theorem writersOk_spec {k bk d : Nat} : ∀ {l : List Oper} {i : Nat}, writersOk bl k bk d i l = true → ∀ (j : Nat) (o : Oper), l[j]? = some o → o.dst = some d → i + j ≠ k → (i + j < k → Nat.testBit bk (i + j) = true) ∧ (k < i + j → ∀ b, bl[i + j]? = some b → Nat.testBit b k = true)
  | [], _, _, j, o, hj, _, _ => by simp at hj
  | x :: l, i, h, j, o, hj, hd, hne => by
    simp only [writersOk, Bool.and_eq_true] at h
    cases j with
    | zero =>
      have hj : x = o := by simpa using hj
      subst hj
      have h := h.1
      rw [hd] at h
      simp only [Bool.or_eq_true, Bool.not_eq_true'] at h
      have e1 : Nat.beq d d = true := by simp
      rw [e1] at h
      rw [Nat.add_zero] at hne ⊢
      have e2 : Nat.beq i k = false := by
        cases q : Nat.beq i k with
        | true => exact absurd (Nat.eq_of_beq_eq_true q) hne
        | false => rfl
      rw [e2] at h
      have h := h.resolve_left (by simp)
      refine ⟨fun hlt => ?_, fun hlt b hb => ?_⟩
      · rw [blt_iff.2 hlt] at h; exact h
      · have e3 : Nat.blt i k = false := by
          cases q : Nat.blt i k with
          | true => have := blt_iff.1 q; omega
          | false => rfl
        rw [e3, nth_eq, hb] at h
        exact h
    | succ j =>
      have := writersOk_spec h.2 j o (by simpa using hj) hd (by omega)
      rw [show i + (j + 1) = i + 1 + j by omega]
      exact this
theorem slotsOk_spec {k bk : Nat} : ∀ {l : List Operand}, slotsOk ops bl k bk l = true → ∀ d, Operand.tmp d ∈ l → writersOk bl k bk d 0 ops = true
  | [], _, d, hd => by simp at hd
  | .tmp e :: l, h, d, hd => by
    simp only [slotsOk, Bool.and_eq_true] at h
    rcases List.mem_cons.1 hd with hd | hd
    · cases hd; exact h.1
    · exact slotsOk_spec h.2 d hd
  | .const v :: l, h, d, hd => slotsOk_spec (l := l) h d ((List.mem_cons.1 hd).resolve_left (by simp))
  | .func v :: l, h, d, hd => slotsOk_spec (l := l) h d ((List.mem_cons.1 hd).resolve_left (by simp))
  | .global v :: l, h, d, hd => slotsOk_spec (l := l) h d ((List.mem_cons.1 hd).resolve_left (by simp))
theorem readsOk_spec : ∀ {l : List Oper} {i : Nat}, readsOk ops bl i l = true → ∀ (k : Nat) (o : Oper), l[k]? = some o → o.guard = none ∧ ∃ b, bl[i + k]? = some b ∧ slotsOk ops bl (i + k) b o.op.operands.toList = true
  | [], _, _, k, o, hk => by simp at hk
  | x :: l, i, h, k, o, hk => by
    simp only [readsOk, Bool.and_eq_true] at h
    cases k with
    | zero =>
      have hk : x = o := by simpa using hk
      subst hk
      have h := h.1
      rw [nth_eq] at h
      split at h
      · rename_i b g1 g2
        exact ⟨g1, b, g2, h⟩
      · cases h
    | succ k =>
      have := readsOk_spec h.2 k o (by simpa using hk)
      rw [show i + (k + 1) = i + 1 + k by omega]
      exact this
/-- The entries of such a region. -/
structure EnP (nx : Nat) (e : En) : Prop where
  lo : e.lo = nx
  hi : e.hi = nx
  log : e.log = []
  ds : e.ds = []
theorem seeH_pure {bits : Nat} : ∀ {es : List En} {i : Nat} {t : PT ABlock}, (∀ e ∈ es, EnP nx e) → seeH bits es i t = t
  | [], _, _, _ => rfl
  | e :: es, i, t, h => by
    show cnd (Nat.testBit bits i) (PT.force (putAll e.ds t) (seeH bits es (i + 1))) (seeH bits es (i + 1) t) = t
    rw [PT.force_eq, (h e List.mem_cons_self).ds]
    show cnd _ (seeH bits es (i + 1) t) _ = _
    rw [seeH_pure fun x hx => h x (List.mem_cons_of_mem _ hx)]
    cases Nat.testBit bits i <;> rfl
theorem allH_pure : ∀ {es : List En} {t : PT ABlock}, (∀ e ∈ es, EnP nx e) → allH es t = t
  | [], _, _ => rfl
  | e :: es, t, h => by
    show PT.force (putAll e.ds t) (allH es) = t
    rw [PT.force_eq, (h e List.mem_cons_self).ds]
    exact allH_pure fun x hx => h x (List.mem_cons_of_mem _ hx)
theorem besides_pure {i bits : Nat} : ∀ {es : List En} {j : Nat}, (∀ e ∈ es, EnP nx e) → besides i bits es j = []
  | [], _, _ => rfl
  | e :: es, j, h => by
    show cnd _ (besides i bits es (j + 1)) (e.log ++ besides i bits es (j + 1)) = []
    rw [(h e List.mem_cons_self).log, besides_pure fun x hx => h x (List.mem_cons_of_mem _ hx)]
    cases (Nat.beq i j || Nat.testBit bits j || Nat.testBit e.bits i) <;> rfl
theorem check2_pure {es : List En} (h : ∀ e ∈ es, EnP nx e) : ∀ {l : List Oper} {r : List En} {i : Nat}, l.length = r.length → check2 C ih ops bl T t es l r i = true
  | [], [], _, _ => rfl
  | o :: l, e :: r, i, hl => by
    show ((match besides i e.bits es 0 with
    | [] => true
    | u => disjN e.log u && (match evOne C ih ops o (seeT e.bits es 0 (bare i 0 ops bl T)) ⟨delAll u (seeH e.bits es 0 t), e.lo, e.lo, []⟩ with
      | some v => AV.beq v.v e.v && Nat.beq v.h.next e.hi && beqN v.h.log e.log && beqD (written v.h.t v.h.log ++ news v.h.t e.lo (Nat.sub v.h.next e.lo)) e.ds
      | none => false)) && check2 C ih ops bl T t es l r (i + 1)) = true
    rw [besides_pure h]
    exact check2_pure h (by simpa using hl)
  | [], _ :: _, _, hl => by simp at hl
  | _ :: _, [], _, hl => by simp at hl
theorem aparts_pure : ∀ {es : List En} {i : Nat}, (∀ e ∈ es, EnP nx e) → aparts es i = true
  | [], _, _ => rfl
  | e :: es, i, h => by
    show (Nat.ble e.lo e.hi && (Nat.beq e.lo e.hi || apart e.lo e.hi i es) && aparts es (i + 1)) = true
    have he := h e List.mem_cons_self
    rw [he.lo, he.hi, ble_iff.2 (Nat.le_refl nx), aparts_pure fun x hx => h x (List.mem_cons_of_mem _ hx)]
    simp
theorem logs_pure {m : Nat} {lg : List Nat} : ∀ {es : List En}, (∀ e ∈ es, EnP nx e) → logs m es lg = lg
  | [], _ => rfl
  | e :: es, h => by
    show logs m es (e.log.foldl (fun l b => logged m b l) lg) = lg
    rw [(h e List.mem_cons_self).log]
    exact logs_pure fun x hx => h x (List.mem_cons_of_mem _ hx)
theorem hiOf_pure : ∀ {es : List En}, (∀ e ∈ es, EnP nx e) → hiOf nx es = nx
  | [], _ => rfl
  | e :: es, h => by
    show hiOf e.hi es = nx
    rw [(h e List.mem_cons_self).hi]
    exact hiOf_pure fun x hx => h x (List.mem_cons_of_mem _ hx)
/-- The values, put one by one. -/
noncomputable def seqT : List En → PT AV → PT AV
  | [], T => T
  | e :: es, T => seqT es (putD e.dst e.v T)
theorem seqT_snoc (e : En) : ∀ (es : List En) (T : PT AV), seqT (es ++ [e]) T = putD e.dst e.v (seqT es T)
  | [], _ => rfl
  | x :: es, T => seqT_snoc e es (putD x.dst x.v T)
theorem allT_eq : ∀ {es : List En} {T : PT AV}, (∀ e ∈ es, ∀ d, e.dst = some d → Nat.blt d n = true) → allT n es T = some (seqT es T)
  | [], _, _ => rfl
  | e :: es, T, h => by
    have he := h e List.mem_cons_self
    have ih := fun T => allT_eq (es := es) (T := T) fun x hx => h x (List.mem_cons_of_mem _ hx)
    unfold allT seqT
    cases hd : e.dst with
    | none => exact ih T
    | some d =>
      simp only
      rw [he d hd, PT.force_eq]
      exact ih _
theorem noDst_of {d : Nat} : ∀ {es : List En}, (∀ e ∈ es, e.dst ≠ some d) → noDst d es = true
  | [], _ => rfl
  | e :: es, h => by
    have h1 := h e List.mem_cons_self
    show ((match e.dst with | some d' => Bool.not (Nat.beq d d') | none => true) && noDst d es) = true
    rw [noDst_of fun x hx => h x (List.mem_cons_of_mem _ hx), Bool.and_true]
    cases hd : e.dst with
    | none => rfl
    | some d' =>
      show (!Nat.beq d d') = true
      cases q : Nat.beq d d' with
      | true => rw [hd, Nat.eq_of_beq_eq_true q] at h1; exact absurd rfl h1
      | false => rfl
theorem dsts_of : ∀ {l : List Oper} {es : List En}, dstsO l = true → es.map En.dst = l.map Oper.dst → dsts es = true
  | [], [], _, _ => rfl
  | [], _ :: _, _, h => by simp at h
  | _ :: _, [], _, h => by simp at h
  | o :: l, e :: es, hd, h => by
    simp only [List.map_cons, List.cons.injEq] at h
    simp only [dstsO, Bool.and_eq_true] at hd
    show ((match e.dst with | some d => noDst d es | none => true) && dsts es) = true
    rw [dsts_of hd.2 h.2, Bool.and_true, h.1]
    cases q : o.dst with
    | none => rfl
    | some d =>
      refine noDst_of fun x hx hxd => ?_
      have hm : x.dst ∈ es.map En.dst := List.mem_map_of_mem hx
      rw [h.2] at hm
      obtain ⟨y, hy, hyd⟩ := List.mem_map.1 hm
      have h1 := hd.1
      rw [q] at h1
      have h1 := List.all_eq_true.1 h1 y hy
      rw [hyd, hxd] at h1
      simp at h1
theorem bare_getP {i d : Nat} : ∀ {l : List Oper} {bs : List Nat} {k : Nat} {T : PT AV}, l.length = bs.length → (∀ (j : Nat) (o : Oper) (b : Nat), l[j]? = some o → bs[j]? = some b → o.dst = some d → k + j = i ∨ Nat.testBit b i = true) → (bare i k l bs T).get d = T.get d
  | [], [], _, _, _, _ => rfl
  | [], _ :: _, _, _, hl, _ => by simp at hl
  | _ :: _, [], _, _, hl, _ => by simp at hl
  | o :: l, b :: bs, k, T, hl, h => by
    have ih := fun T => bare_getP (i := i) (d := d) (l := l) (bs := bs) (k := k + 1) (T := T) (by simpa using hl) fun j x c hj hc hx => by
      have := h (j + 1) x c (by simpa using hj) (by simpa using hc) hx
      rwa [show k + (j + 1) = k + 1 + j by omega] at this
    show (cnd (Nat.beq k i || Nat.testBit b i) (bare i (Nat.succ k) l bs T) (match o.dst with
      | some d => PT.force (PT.put none T d) (bare i (Nat.succ k) l bs)
      | none => bare i (Nat.succ k) l bs T)).get d = T.get d
    cases q : (Nat.beq k i || Nat.testBit b i) with
    | true => exact ih T
    | false =>
      cases hd : o.dst with
      | none => exact ih T
      | some e =>
        show (PT.force (PT.put none T e) (bare i (k + 1) l bs)).get d = T.get d
        rw [PT.force_eq, ih, PT.get_put]
        split
        · rename_i hde
          subst hde
          rcases h 0 o b rfl rfl hd with h0 | h0
          · have : Nat.beq k i = true := by rw [Nat.add_zero] at h0; subst h0; simp
            rw [this] at q; cases q
          · rw [h0] at q; simp at q
        · rfl
theorem seeT_getP {bits d : Nat} : ∀ {es : List En} {i : Nat} {T T' : PT AV}, (∀ (j : Nat) (e : En), es[j]? = some e → e.dst = some d → Nat.testBit bits (i + j) = true) → (T.get d = T'.get d ∨ ∃ e ∈ es, e.dst = some d) → (seeT bits es i T).get d = (seqT es T').get d
  | [], _, _, _, _, h => h.resolve_right (by simp)
  | e :: es, i, T, T', hb, h => by
    have ih := fun (T T' : PT AV) hh => seeT_getP (bits := bits) (d := d) (es := es) (i := i + 1) (T := T) (T' := T') (fun j x hj hx => by
      have := hb (j + 1) x (by simpa using hj) hx
      rwa [show i + (j + 1) = i + 1 + j by omega] at this) hh
    show (cnd (Nat.testBit bits i) (match e.dst with
      | some d => PT.force (PT.put (some e.v) T d) (seeT bits es (i + 1))
      | none => seeT bits es (i + 1) T) (seeT bits es (i + 1) T)).get d = (seqT es (putD e.dst e.v T')).get d
    cases hd : e.dst with
    | none =>
      have : (T.get d = T'.get d ∨ ∃ e ∈ es, e.dst = some d) := h.imp id fun ⟨x, hx, hxd⟩ => by
        rcases List.mem_cons.1 hx with rfl | hx
        · rw [hd] at hxd; cases hxd
        · exact ⟨x, hx, hxd⟩
      cases Nat.testBit bits i <;> exact ih T T' this
    | some c =>
      by_cases hcd : c = d
      · subst hcd
        have := hb 0 e rfl hd
        rw [Nat.add_zero] at this
        rw [this]
        show (PT.force (PT.put (some e.v) T c) (seeT bits es (i + 1))).get c = _
        rw [PT.force_eq]
        exact ih _ _ (.inl (by show (PT.put (some e.v) T c).get c = (PT.put (some e.v) T' c).get c; rw [PT.get_put, PT.get_put, if_pos rfl, if_pos rfl]))
      · have h' : ∀ T1 T2 : PT AV, (T1.get d = T.get d) → (T2.get d = T'.get d) → (T1.get d = T2.get d ∨ ∃ e ∈ es, e.dst = some d) := fun T1 T2 e1 e2 => by
          rw [e1, e2]
          exact h.imp id fun ⟨x, hx, hxd⟩ => by
            rcases List.mem_cons.1 hx with rfl | hx
            · rw [hd] at hxd; exact absurd (Option.some.inj hxd) hcd
            · exact ⟨x, hx, hxd⟩
        have e2 : (putD (some c) e.v T').get d = T'.get d := by show (PT.put (some e.v) T' c).get d = _; rw [PT.get_put, if_neg (fun q => hcd q.symm)]
        cases Nat.testBit bits i with
        | false => exact ih T _ (h' T _ rfl e2)
        | true =>
          show (PT.force (PT.put (some e.v) T c) (seeT bits es (i + 1))).get d = _
          rw [PT.force_eq]
          exact ih _ _ (h' _ _ (by rw [PT.get_put, if_neg (fun q => hcd q.symm)]) e2)
theorem bitsOf_bitsP {es : List En} {o : Oper} : bitsOf es o = bitsP (es.map En.bits) o := by
  unfold bitsOf bitsP
  congr 1
  funext s e
  rw [nth_eq, nth_eq, List.getElem?_map]
  cases es[e.on]? <;> rfl
theorem bitsEn_map : ∀ es : List En, bitsEn es = es.map En.bits
  | [] => rfl
  | e :: es => by show e.bits :: bitsEn es = _; rw [bitsEn_map es]; rfl
/-- What the operations come to, each at the blocks as they are. -/
def Pure (C : Ctx) (S : Summ) (ops : List Oper) (t : PT ABlock) (nx : Nat) : List Oper → PT AV → List AV → Prop
  | [], _, vs => vs = []
  | o :: l, T, v :: vs => (∃ K, ∀ k, K ≤ k → evOne C (ev C S k) ops o T ⟨t, nx, nx, []⟩ = some ⟨v, ⟨t, nx, nx, []⟩⟩) ∧ Pure C S ops t nx l (putD o.dst v T) vs
  | _ :: _, _, [] => False
noncomputable def lastT : List Oper → PT AV → List AV → PT AV
  | o :: l, T, v :: vs => lastT l (putD o.dst v T) vs
  | _, T, _ => T
theorem draw1_pure (hr : readsOk ops bl 0 ops = true) (hb : backEdges ops 0 = true) (hbl : bl = bitsL ops []) : ∀ {l : List Oper} {vs : List AV} {es : List En}, (∀ e ∈ es, EnP nx e) → es.map En.dst = (ops.take es.length).map Oper.dst → ops.drop es.length = l →
    bl = bitsL l (es.map En.bits) → Pure C S ops t nx l (seqT es T) vs → ∃ K, ∀ k, K ≤ k → ∃ es', draw1 C (ev C S k) ops bl T t l es nx = some es' ∧ (∀ e ∈ es', EnP nx e) ∧ es'.map En.dst = ops.map Oper.dst ∧ es'.map En.bits = bl ∧ seqT es' T = lastT l (seqT es T) vs
  | [], vs, es, he, hd, hl, hbs, _ => by
    have hlen : ops.length ≤ es.length := List.drop_eq_nil_iff.1 hl
    refine ⟨0, fun k _ => ⟨es, rfl, he, ?_, hbs.symm, ?_⟩⟩
    · rw [hd, List.take_of_length_le hlen]
    · cases vs <;> rfl
  | o :: l, [], es, _, _, _, _, hp => hp.elim
  | o :: l, v :: vs, es, he, hd, hl, hbs, ⟨⟨K, hK⟩, hp⟩ => by
    have ho : ops[es.length]? = some o := by
      have := congrArg (fun q : List Oper => q[0]?) hl
      simpa using this
    obtain ⟨hg, b, hbk, hs⟩ := readsOk_spec hr es.length o ho
    rw [Nat.zero_add] at hbk hs
    have hbo : bitsOf es o = b := by
      have h1 : bl = bitsL l (es.map En.bits ++ [bitsP (es.map En.bits) o]) := by rw [hbs]; show forceN _ _ = _; rw [forceN_eq]
      obtain ⟨tail, h2, _⟩ := bitsL_spec (l := l) (bl := es.map En.bits ++ [bitsP (es.map En.bits) o]) rfl
      rw [← h1] at h2
      rw [h2, List.append_assoc, List.getElem?_append_right (by rw [List.length_map]; exact Nat.le_refl _), List.length_map, Nat.sub_self] at hbk
      have : bitsP (es.map En.bits) o = b := by simpa using hbk
      rw [bitsOf_bitsP, this]
    have hlen : ops.length = bl.length := by
      obtain ⟨tail, h2, h3, _⟩ := bitsL_spec (l := ops) (bl := []) rfl
      rw [← hbl] at h2
      rw [h2]; simp [h3]
    have hes : ∀ (j : Nat) (e : En), es[j]? = some e → ∃ x, ops[j]? = some x ∧ x.dst = e.dst ∧ j < es.length := fun j e hj => by
      have hjl := (List.getElem?_eq_some_iff.1 hj).1
      have h1 := congrArg (fun q : List (Option Tmp) => q[j]?) hd
      simp only [List.getElem?_map, hj, Option.map_some, List.getElem?_take, if_pos hjl] at h1
      obtain ⟨x, hx, hxd⟩ := Option.map_eq_some_iff.1 h1.symm
      exact ⟨x, hx, hxd, hjl⟩
    have hT : ∀ x ∈ o.op.operands, evOpd C.G (seeT (bitsOf es o) es 0 (bare es.length 0 ops bl T)) x = evOpd C.G (seqT es T) x := fun x hx => by
      cases x with
      | tmp d =>
        have hw := slotsOk_spec hs d (Array.mem_toList_iff.2 hx)
        have W := fun (j : Nat) (y : Oper) (hy : ops[j]? = some y) (hyd : y.dst = some d) (hne : j ≠ es.length) => by
          have := writersOk_spec hw j y hy hyd (by rw [Nat.zero_add]; exact hne)
          rwa [Nat.zero_add] at this
        show (seeT (bitsOf es o) es 0 (bare es.length 0 ops bl T)).get d = (seqT es T).get d
        refine seeT_getP (fun j e hj hed => ?_) ?_
        · obtain ⟨y, hy, hyd, hjl⟩ := hes j e hj
          rw [hbo, Nat.zero_add]
          exact (W j y hy (hyd.trans hed) (by omega)).1 hjl
        · by_cases q : ∃ e ∈ es, e.dst = some d
          · exact .inr q
          · refine .inl (bare_getP hlen fun j y c hy hc hyd => ?_)
            rw [Nat.zero_add]
            by_cases hj : j = es.length
            · exact .inl hj
            · right
              rcases Nat.lt_or_ge j es.length with hlt | hge
              · exfalso
                obtain ⟨e, hje⟩ : ∃ e, es[j]? = some e := ⟨_, List.getElem?_eq_getElem hlt⟩
                obtain ⟨y', hy', hyd', _⟩ := hes j e hje
                rw [hy] at hy'; cases hy'
                exact q ⟨e, List.mem_of_getElem? hje, hyd'.symm.trans hyd⟩
              · exact (W j y hy hyd hj).2 (by omega) c hc
      | const _ => rfl
      | func _ => rfl
      | global _ => rfl
    have hone : ∀ k, K ≤ k → evOne C (ev C S k) ops o (seeT (bitsOf es o) es 0 (bare (len es) 0 ops bl T)) ⟨seeH (bitsOf es o) es 0 t, nx, nx, []⟩ = some ⟨v, ⟨t, nx, nx, []⟩⟩ := fun k hk => by
      rw [seeH_pure he, len_eq, evOne_congr hT (by rw [hg]; rfl)]
      exact hK k hk
    have hen : enOf (bitsOf es o) o.dst nx ⟨v, ⟨t, nx, nx, []⟩⟩ = ⟨bitsOf es o, o.dst, v, nx, nx, [], []⟩ := by
      unfold enOf
      show En.mk _ _ _ _ _ _ ([] ++ news t nx (Nat.sub nx nx)) = _
      rw [show Nat.sub nx nx = 0 from Nat.sub_self nx]
      rfl
    have hput : seqT (es ++ [⟨bitsOf es o, o.dst, v, nx, nx, [], []⟩]) T = putD o.dst v (seqT es T) := seqT_snoc _ _ _
    obtain ⟨K2, hK2⟩ := draw1_pure hr hb hbl (l := l) (vs := vs) (es := es ++ [⟨bitsOf es o, o.dst, v, nx, nx, [], []⟩]) (fun e hx => by
        rcases List.mem_append.1 hx with hx | hx
        · exact he e hx
        · rw [List.mem_singleton] at hx; subst hx; exact ⟨rfl, rfl, rfl, rfl⟩)
      (by rw [List.map_append, hd, List.length_append]
          show _ = (ops.take (es.length + 1)).map Oper.dst
          rw [List.take_add_one, ho]; simp)
      (by rw [List.length_append]
          show ops.drop (es.length + 1) = l
          rw [← List.drop_drop, hl]; rfl)
      (by rw [hbs]
          show forceN (bitsP (es.map En.bits) o) (fun b => bitsL l (es.map En.bits ++ [b])) = _
          rw [forceN_eq, List.map_append, bitsOf_bitsP]; rfl)
      (by rw [hput]; exact hp)
    refine ⟨max K K2, fun k hk => ?_⟩
    obtain ⟨es', g1, g2, g3, g4, g5⟩ := hK2 k (by omega)
    refine ⟨es', ?_, g2, g3, g4, by rw [g5, hput]; rfl⟩
    show (match evOne C (ev C S k) ops o (seeT (bitsOf es o) es 0 (bare (len es) 0 ops bl T)) ⟨seeH (bitsOf es o) es 0 t, nx, nx, []⟩ with
    | some r => forceN r.h.next fun hi => draw1 C (ev C S k) ops bl T t l (es ++ [enOf (bitsOf es o) o.dst nx r]) hi
    | none => none) = _
    rw [hone k (by omega)]
    show forceN nx (fun hi => draw1 C (ev C S k) ops bl T t l (es ++ [enOf (bitsOf es o) o.dst nx ⟨v, ⟨t, nx, nx, []⟩⟩]) hi) = _
    rw [forceN_eq, hen]
    exact g1
theorem dstOk_spec : ∀ {l : List Oper}, dstOk n l = true → ∀ o ∈ l, ∀ d, o.dst = some d → Nat.blt d n = true
  | [], _, o, ho, _, _ => by simp at ho
  | x :: l, h, o, ho, d, hd => by
    simp only [dstOk, Bool.and_eq_true] at h
    rcases List.mem_cons.1 ho with rfl | ho
    · have := h.1; rw [hd] at this; exact this
    · exact dstOk_spec h.2 o ho d hd
theorem beqN_self : ∀ l : List Nat, beqN l l = true
  | [] => rfl
  | a :: l => by
    show (Nat.beq a a && beqN l l) = true
    rw [beqN_self l]; simp
/-- A region that draws its order: what must hold behind it. -/
def PW (C : Ctx) (S : Summ) (ops : List Oper) (h : AH) (l : List Oper) (T : PT AV) (K : PT AV → Prop) : Prop := ∃ vs, Pure C S ops h.t h.next l T vs ∧ K (lastT l T vs)
theorem WRun.regionP {fn : FuncId} {rd : Option Nat} {df : List Nat} {h : AH} {Q : Post} {i : Nat} {ops : Array Oper} (hs : pureOk C.ty n ops.toList = true) (H : PW C S ops.toList h ops.toList T fun T1 => Q .norm T1 df h) : WRun C S fn n rd (.region i ops true) T df h Q := by
  obtain ⟨vs, hp, hq⟩ := H
  simp only [pureOk, Bool.and_eq_true, Bool.not_eq_true'] at hs
  obtain ⟨⟨⟨⟨h1, h2⟩, h3⟩, h4⟩, h5⟩ := hs
  obtain ⟨K, hK⟩ := draw1_pure (T := T) (es := []) (l := ops.toList) h5 h2 rfl (by simp) (by simp) rfl rfl hp
  refine ⟨.norm, lastT ops.toList T vs, df, h, .of_succ ⟨K, fun k hk live => ?_⟩, hq⟩
  obtain ⟨es, g1, g2, g3, g4, g5⟩ := hK k hk
  show cnd (isSeq C.ty ops.toList) _ (evDrawS C (ev C S k) ⟨fn, n, rd, live⟩ ops.toList T df h) = _
  rw [h1]
  show forceL (bitsL ops.toList []) (fun bl => evDrawL C (ev C S k) ⟨fn, n, rd, live⟩ ops.toList T df h bl) = _
  rw [forceL_eq]
  unfold evDrawL
  rw [g1]
  have hlen : ops.toList.length = es.length := by
    have := congrArg List.length g3
    simpa using this.symm
  have hdn : ∀ e ∈ es, ∀ d, e.dst = some d → Nat.blt d n = true := fun e he d hd => by
    have hm : e.dst ∈ es.map En.dst := List.mem_map_of_mem he
    rw [g3] at hm
    obtain ⟨o, ho, hod⟩ := List.mem_map.1 hm
    exact dstOk_spec h4 o ho d (hod.trans hd)
  show cnd (beqN (bitsEn es) (bitsL ops.toList []) && backEdges ops.toList 0 && dsts es && aparts es 0 && check2 C (ev C S k) ops.toList (bitsL ops.toList []) T h.t es ops.toList es 0)
      (match allT n es T with
      | some T => Res.one (O.mk .norm T df ⟨allH es h.t, hiOf h.next es, h.mark, logs h.mark es h.log⟩)
      | none => .fail) .fail = _
  rw [bitsEn_map, g4, beqN_self, h2, dsts_of h3 g3, aparts_pure g2, check2_pure g2 hlen, allT_eq hdn, allH_pure g2, hiOf_pure g2, logs_pure g2, g5]
  rfl
variable {l : List Oper} {op : Op} {ty : TypeId} {pos : String} {af : Array Edge} {d : Nat} {v : AV} {h : AH} {K : PT AV → Prop}
theorem PW.nil (H : K T) : PW C S ops h [] T K := ⟨[], rfl, H⟩
theorem PW.val (he : evOp op C T ⟨h.t, h.next, h.next, []⟩ = .val v ⟨h.t, h.next, h.next, []⟩) (H : PW C S ops h l (putD (some d) v T) K) : PW C S ops h (⟨some d, op, ty, pos, af, none⟩ :: l) T K := by
  obtain ⟨vs, h1, h2⟩ := H
  refine ⟨v :: vs, ⟨⟨0, fun k _ => ?_⟩, h1⟩, h2⟩
  show oneRes (opThen (ev C S k) (evOp op C T ⟨h.t, h.next, h.next, []⟩) fun v h => .one ⟨v, h⟩) = _
  rw [he]
  rfl
theorem PW.call {f : FuncId} {args : List AV} (he : evOp op C T ⟨h.t, h.next, h.next, []⟩ = .call f args ⟨h.t, h.next, h.next, []⟩) (hc : RunCall C S f args ⟨h.t, h.next, h.next, []⟩ ⟨v, ⟨h.t, h.next, h.next, []⟩⟩) (H : PW C S ops h l (putD (some d) v T) K) : PW C S ops h (⟨some d, op, ty, pos, af, none⟩ :: l) T K := by
  obtain ⟨vs, h1, h2⟩ := H
  obtain ⟨K1, hK⟩ := hc
  refine ⟨v :: vs, ⟨⟨K1, fun k hk => ?_⟩, h1⟩, h2⟩
  show oneRes (opThen (ev C S k) (evOp op C T ⟨h.t, h.next, h.next, []⟩) fun v h => .one ⟨v, h⟩) = _
  rw [he]
  show oneRes (Res.bind ((ev C S k).call f args _) fun r => .one ⟨r.v, r.h⟩) = _
  rw [hK k hk]
  rfl
end
end Go.Ev
namespace Go.Ev
section
variable {P : Program} {Ω : Nat → Option Obj} {C : Ctx} {Su : Summ}
/-- A call over rows that no operation writes. -/
theorem calls_still (hC : CtxOk P C) (hS : SummOk P Ω C Su) {h : AH} {ρ : Map} {W : World} (s : Sim C.G ρ h W) (hΩ : ∀ g o, Ω g = some o → W.heap[g]? = some o) (hst : ∀ b ab, h.t.get b = some ab → ab.Still)
    {f : FuncId} {args : List AV} (ha : loL h.next args = true) {v : AV} {h' : AH} (hr : RunCall C Su f args h ⟨v, h'⟩) :
    Calls P f (concL ρ args).toArray W fun e w' => ∃ ρ', e = .returned (conc ρ' v) ∧ RowKit.Below W.heap.size W w' := by
  obtain ⟨K, hK⟩ := hr
  have B : Base Ω ρ h W := fun g o hg => ⟨hΩ g o hg, fun b ab hb hn => absurd (hst b ab hb) hn⟩
  intro cs
  obtain ⟨e, w', fr, ⟨ρ', h1, h2⟩, h3⟩ := calls_of_out (fun cs => callOut_of_one hC hS K s B ha (hK K (Nat.le_refl K)) cs) cs
  exact ⟨e, w', fr, ⟨ρ', h2, ⟨h1.os, h1.tape, h1.output, h1.size, fun k hk => h1.frame k hk fun b ab hb hn => absurd (hst b ab hb) hn⟩⟩, h3⟩
/-- A tree off a function. -/
noncomputable def mkT (F : Nat → Option ABlock) : Nat → PT ABlock
  | 0 => .leaf
  | n + 1 => PT.put (F n) (mkT F n) n
theorem mkT_get (F : Nat → Option ABlock) : ∀ (n b : Nat), (mkT F n).get b = if b < n then F b else none
  | 0, b => by rw [if_neg (by omega)]; exact PT.get_leaf b
  | n + 1, b => by
    show (PT.put (F n) (mkT F n) n).get b = _
    rw [PT.get_put, mkT_get F n b]
    by_cases h : b = n
    · rw [if_pos h, if_pos (by omega), h]
    · rw [if_neg h]
      by_cases h2 : b < n
      · rw [if_pos h2, if_pos (by omega)]
      · rw [if_neg h2, if_neg (by omega)]
/-- A row of the world, known from a place on: c. -/
def rowBlock (L : Loc) (c : List AV) : ABlock := .cells c ((c.length + 1 + L.size) * 65536)
theorem rowBlock_still (L : Loc) (c : List AV) : (rowBlock L c).Still :=
  ⟨by rw [Nat.mul_div_cancel _ (by decide)]; omega, Nat.mul_mod_left _ _⟩
theorem rowBlock_rel {ρ : Map} {L : Loc} {w : World} {c : List AV} {cs : Array Value} {e : TypeId} {fr : Nat × Nat} (h1 : w.heap[L.blk]? = some (.cells cs e fr)) (h2 : L.shift + L.size = cs.size) (h3 : c.length ≤ L.size)
    (h4 : ∀ i v, c[i]? = some v → cs[L.shift + i]? = some (conc ρ v)) : blockRel ρ L w (rowBlock L c) := by
  refine ⟨cs, e, fr, h1, h2, h3, h4, fun i hi hl => ?_, fun t ht => ?_⟩
  · rw [Nat.mul_div_cancel _ (by decide)] at hi
    omega
  · rw [Nat.mul_mod_left] at ht
    omega
end
end Go.Ev
namespace Go.Ev
section
variable {W : World}
theorem cell_get {a : Addr} {v : Value} (h : W.cell? a = some v) : ∃ cs e fr, W.heap[a.block]? = some (.cells cs e fr) ∧ a.spot = none ∧ cs[a.off]? = some v := by
  unfold World.cell? at h
  split at h
  · rename_i c e fr heq
    refine ⟨c, e, fr, heq, ?_⟩
    cases hs : a.spot with
    | none => rw [hs] at h; exact ⟨rfl, by simpa using h⟩
    | some _ => rw [hs] at h; simp at h
  · cases h
theorem add_parts (a : Addr) (i : Nat) : (a.add i).block = a.block ∧ (a.add i).off = a.off + i ∧ (i = 0 → (a.add i).spot = a.spot) := by
  unfold Addr.add
  by_cases h : i = 0
  · rw [if_pos h]; subst h; exact ⟨rfl, rfl, fun _ => rfl⟩
  · rw [if_neg h]; exact ⟨rfl, rfl, fun h' => absurd h' h⟩
/-- Where a slice lies. -/
def locV (W : World) : Value → Loc
  | .slice (some a) _ _ => ⟨a.block, a.off, (match W.heap[a.block]? with | some (.cells cs _ _) => cs.size - a.off | _ => 0), a.spot⟩
  | _ => ⟨0, 0, 0, none⟩
/-- A slice over block b. -/
def avV (b : Nat) : Value → AV
  | .slice (some _) n cap => .slice b 0 n cap
  | _ => .nils
/-- v is a slice of n cells: V. -/
def SlV (W : World) (v : Value) (n : Nat) (V : Nat → Value) : Prop :=
  (v = .slice none 0 0 ∧ n = 0) ∨ ∃ a cap, v = .slice (some a) n cap ∧ ∀ i, i < n → W.cell? (a.add i) = some (V i)
variable {v : Value} {n : Nat} {V : Nat → Value}
theorem SlV.conc (q : SlV W v n V) {ρ : Map} {b : Nat} (hb : ρ b = locV W v) : Ev.conc ρ (avV b v) = v := by
  rcases q with ⟨rfl, _⟩ | ⟨a, cap, rfl, _⟩
  · rfl
  · show Value.slice (some ((ρ b).at 0)) n cap = _
    rw [hb]
    rfl
theorem SlV.lo (q : SlV W v n V) {b m : Nat} (h : b < m) : (avV b v).lo m = true := by
  rcases q with ⟨rfl, _⟩ | ⟨a, cap, rfl, _⟩
  · rfl
  · exact blt_iff.2 h
theorem SlV.spot (q : SlV W v n V) (hn : 0 < n) : (locV W v).spot = none := by
  rcases q with ⟨_, rfl⟩ | ⟨a, cap, rfl, hc⟩
  · omega
  · obtain ⟨cs, e, fr, _, h2, _⟩ := cell_get (hc 0 hn)
    rw [(add_parts a 0).2.2 rfl] at h2
    exact h2
theorem SlV.rel (q : SlV W v n V) (hn : 0 < n) {C : List AV} {ρ : Map} (hl : C.length = n) (hC : ∀ i c, C[i]? = some c → Ev.conc ρ c = V i) : blockRel ρ (locV W v) W (rowBlock (locV W v) C) := by
  rcases q with ⟨_, rfl⟩ | ⟨a, cap, rfl, hc⟩
  · omega
  · have hall : ∀ i, i < n → ∃ cs e fr, W.heap[a.block]? = some (.cells cs e fr) ∧ cs[a.off + i]? = some (V i) := fun i hi => by
      obtain ⟨cs, e, fr, h1, _, h3⟩ := cell_get (hc i hi)
      rw [(add_parts a i).1] at h1
      rw [(add_parts a i).2.1] at h3
      exact ⟨cs, e, fr, h1, h3⟩
    obtain ⟨cs, e, fr, h1, _⟩ := hall 0 hn
    have hcs : ∀ i, i < n → cs[a.off + i]? = some (V i) := fun i hi => by
      obtain ⟨cs', e', fr', h1', h3⟩ := hall i hi
      rw [h1] at h1'
      cases h1'
      exact h3
    have hlast : a.off + (n - 1) < cs.size := by
      have := hcs (n - 1) (by omega)
      rcases Nat.lt_or_ge (a.off + (n - 1)) cs.size with h | h
      · exact h
      · rw [Array.getElem?_eq_none h] at this; cases this
    have hsz : (locV W (.slice (some a) n cap)).size = cs.size - a.off := by
      show (match W.heap[a.block]? with | some (.cells cs _ _) => cs.size - a.off | _ => 0) = _
      rw [h1]
    have hsh : (locV W (.slice (some a) n cap)).shift = a.off := rfl
    refine rowBlock_rel (cs := cs) (e := e) (fr := fr) h1 (by rw [hsz, hsh]; omega) (by rw [hsz]; omega) fun i c hi => ?_
    have hin : i < n := by rw [← hl]; exact (List.getElem?_eq_some_iff.1 hi).1
    rw [hC i c hi]
    exact hcs i hin
end
end Go.Ev
