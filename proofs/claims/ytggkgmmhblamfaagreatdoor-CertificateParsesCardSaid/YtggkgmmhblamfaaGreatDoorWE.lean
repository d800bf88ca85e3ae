/- Part of the proof. -/
import Derived.Test.YtggkgmmhblamfaaGreatDoorWD
set_option linter.all false
namespace Go.Proofs
open Go.Ev
set_option maxRecDepth 100000
theorem op_build0 {C : Ctx} {T : PT AV} {h : AH} {t : TypeId} : evOp (.build t #[]) C T h = withT C.ty t fun a => evBuild C.ty a [] h := rfl
theorem op_build1 {C : Ctx} {T : PT AV} {h : AH} {t : TypeId} {i : Nat} {x : Operand} : evOp (.build t #[(i, x)]) C T h = withT C.ty t fun a => with1 (evOpd C.G T x) fun v => evBuild C.ty a [(i, v)] h := by
  show withT C.ty t (fun a => withL (oe none (evOpd C.G T x) fun v => oe none (some []) fun vs => some ((i, v) :: vs)) fun ps => evBuild C.ty a ps h) = _
  cases evOpd C.G T x <;> rfl
theorem Tryz.bd24 (h : AH) : evBuild Tryz.ctx.ty Tryz.y24 [] h = .val (.agg [.nils]) h := by rfl
theorem Tryz.bd27 (h : AH) : evBuild Tryz.ctx.ty Tryz.y27 [] h = .val (.agg [.int .i64 0, .int .i64 0, .nils, .nils]) h := by rfl
theorem fz4 : fzNew 3 = 4 := by decide +kernel
theorem fz26 : fzNew 25 = 26 := by decide +kernel
theorem fz23 : fzNew 22 = 23 := by decide +kernel
theorem fz25 : fzNew 24 = 25 := by decide +kernel
theorem fz30 : fzNew 29 = 30 := by decide +kernel
theorem Tryz.word25 : Word Tryz.y25 Tryz.y3 Tryz.ctx.ty 3 := ⟨rfl, Tryz.ty3, rfl, by decide +kernel, by decide +kernel, rfl⟩
theorem Tryz.word22 : Word Tryz.y22 Tryz.y25 Tryz.ctx.ty 25 := ⟨rfl, Tryz.ty25, rfl, by decide +kernel, by decide +kernel, rfl⟩
def intsAV (l : List Int) : List AV := l.map (AV.int .i64)
theorem cAtoi {S : Summ} (h23 : S.get 23 = some sAtoi) {s : List UInt8} (hs : s.length ≤ 1000000) (h : AH) :
    (∃ v, RunCall Tryz.ctx S 23 [.str s] h ⟨.tup [.int .i64 v, .nili], h⟩) ∨ ∃ v, RunCall Tryz.ctx S 23 [.str s] h ⟨.tup [.int .i64 v, .iface 140 (.ptr h.next 0)], ⟨h.t, h.next + 1, h.mark, h.log⟩⟩ := by
  rcases q : Lib.atoiAll s with v | _ | _
  · exact .inl ⟨v, RunCall.summ h23 (by unfold sAtoi; simp only [hs, if_true, q])⟩
  · exact .inr ⟨0, RunCall.summ h23 (by unfold sAtoi; simp only [hs, if_true, q])⟩
  · exact .inr ⟨_, RunCall.summ h23 (by unfold sAtoi; simp only [hs, if_true, q]; rfl)⟩
/-- The table as it is read. -/
structure TabI (lo w : Nat) (H : AH) (tv : AV) (t : List (List Int)) (rvs : List AV) : Prop where
  vec : VecI lo H tv rvs
  len : rvs.length = t.length
  row : ∀ (i : Nat) (l : List Int), t[i]? = some l → ∃ rv, rvs[i]? = some rv ∧ VecI lo H rv (intsAV l) ∧ rv.one = true ∧ rv.cells = [rv] ∧ (∀ c n k, rv = .sliceU c 0 n 1 → tv ≠ .sliceU c 0 k 1) ∧ ∀ x ∈ l, 0 ≤ x ∧ x ≤ 30
  wl : t.length ≤ w
  ws : (t.map List.length).sum ≤ w
theorem TabI.keep {lo w : Nat} {H H' : AH} {tv : AV} {t : List (List Int)} {rvs : List AV} (q : TabI lo w H tv t rvs) (hk : ∀ c, lo ≤ c → c < H.next → H'.t.get c = H.t.get c) (hl : ∀ b x, H.t.get b = some x → b < H.next) : TabI lo w H' tv t rvs := by
  have key : ∀ v l, VecI lo H v l → VecI lo H' v l := fun v l r => by
    rcases r with r | ⟨b, fz, h1, h2, h3, h4, h5⟩
    · exact .inl r
    · exact .inr ⟨b, fz, h1, h2, by rw [hk b h2 (hl _ _ h3)]; exact h3, h4, h5⟩
  exact ⟨key _ _ q.vec, q.len, fun i l hl => by
    obtain ⟨rv, h1, h2, h3⟩ := q.row i l hl
    exact ⟨rv, h1, key _ _ h2, h3⟩, q.wl, q.ws⟩
theorem VecI.len {lo : Nat} {H : AH} {v : AV} {l : List AV} (r : VecI lo H v l) {ty : PT ATy} {a : ATy} {e : Nat} (ha : a.d = .slice e) (h' : AH) : evLen ty a v h' = some (.int .i64 l.length) := by
  unfold evLen
  rw [ha]
  rcases r with ⟨rfl, rfl⟩ | ⟨b, fz, rfl, _⟩ <;> rfl
theorem TabI.tab {lo w : Nat} {H : AH} {tv : AV} {t : List (List Int)} {rvs : List AV} (q : TabI lo w H tv t rvs) : TabT H tv t fun i => rvs[i]?.getD .nils := by
  have hrow := q.vec.row
  refine ⟨fun h' => ?_, fun i l hl h' => ?_, fun i l hl h' e => ?_, fun i l j x hl hx h' e => ?_⟩
  · rw [← q.len]; exact q.vec.len rfl h'
  · obtain ⟨rv, h1, h2, _⟩ := q.row i l hl
    rw [h1]
    have := h2.len (ty := Tryz.ctx.ty) (a := Tryz.y25) rfl h'
    rw [show (intsAV l).length = l.length from List.length_map ..] at this
    exact this
  · obtain ⟨rv, h1, h2, _⟩ := q.row i l hl
    rw [h1]
    exact (hrow.mono e).elem rfl Tryz.ty25 rfl rfl h1
  · obtain ⟨rv, h1, h2, _⟩ := q.row i l hl
    rw [h1]
    exact (h2.row.mono e).elem rfl Tryz.ty3 rfl rfl (by unfold intsAV; rw [List.getElem?_map, hx]; rfl)
theorem TabI.keep0 {lo w : Nat} {H H' : AH} {tv : AV} {t : List (List Int)} {rvs : List AV} (q : TabI lo w H tv t rvs) (hk : ∀ c, lo ≤ c → H'.t.get c = H.t.get c) : TabI lo w H' tv t rvs := by
  have key : ∀ v l, VecI lo H v l → VecI lo H' v l := fun v l r => by
    rcases r with r | ⟨b, fz, h1, h2, h3, h4, h5⟩
    · exact .inl r
    · exact .inr ⟨b, fz, h1, h2, by rw [hk b h2]; exact h3, h4, h5⟩
  exact ⟨key _ _ q.vec, q.len, fun i l hl => by
    obtain ⟨rv, h1, h2, h3⟩ := q.row i l hl
    exact ⟨rv, h1, key _ _ h2, h3⟩, q.wl, q.ws⟩
theorem VecI.one {lo : Nat} {H : AH} {v : AV} {l : List AV} (r : VecI lo H v l) : v.one = true ∧ v.cells = [v] := by
  rcases r with ⟨rfl, _⟩ | ⟨b, fz, rfl, _⟩ <;> exact ⟨rfl, rfl⟩
theorem WRun.withT {C : Ctx} {S : Summ} {fn : FuncId} {n : Nat} {rd : Option Nat} {T : PT AV} {df : List Nat} {h : AH} {c : Code} {Q : Post} {P : PT AV → Prop} (hP : P T) (H : ∀ T', P T' → WRun C S fn n rd c T' df h Q) : WRun C S fn n rd c T df h Q := H T hP
theorem neq_nili (n : Nat) : binV Tryz.ctx.ty .neq 55 (isConst (.tmp n) || isConst (.const .nilIface)) .nili .nili = some (.bool false) := by
  show evNil Tryz.ctx.ty .neq 55 .nili .nili = _
  unfold evNil
  rw [Tryz.ty55]
  rfl
theorem neq_iface (n : Nat) (a : TypeId) (v : AV) : binV Tryz.ctx.ty .neq 55 (isConst (.tmp n) || isConst (.const .nilIface)) (.iface a v) .nili = some (.bool true) := by
  show evNil Tryz.ctx.ty .neq 55 (.iface a v) .nili = _
  unfold evNil
  rw [Tryz.ty55]
  rfl
/-- strconv.Atoi, its error as a yes or no. -/
theorem cAtoi' {S : Summ} (h23 : S.get 23 = some sAtoi) {s : List UInt8} (hs : s.length ≤ 1000000) (h : AH) :
    ∃ v iv nx bad, RunCall Tryz.ctx S 23 [.str s] h ⟨.tup [.int .i64 v, iv], ⟨h.t, nx, h.mark, h.log⟩⟩ ∧ h.next ≤ nx ∧ ∀ n, binV Tryz.ctx.ty .neq 55 (isConst (.tmp n) || isConst (.const .nilIface)) iv .nili = some (.bool bad) := by
  rcases cAtoi h23 hs h with ⟨v, q⟩ | ⟨v, q⟩
  · exact ⟨v, .nili, h.next, false, q, Nat.le_refl _, neq_nili⟩
  · exact ⟨v, _, h.next + 1, true, q, Nat.le_succ _, fun n => neq_iface n _ _⟩
theorem Own.bump {h h' : AH} (o : Own h h') {nx : Nat} (hn : h'.next ≤ nx) : Own h ⟨h'.t, nx, h'.mark, h'.log⟩ :=
  ⟨o.ext, o.low, fun b x e => Nat.lt_of_lt_of_le (o.lowN b x e) hn, Nat.le_trans o.next hn, o.mark, o.log⟩
theorem VecI.keep0 {lo : Nat} {H H' : AH} {v : AV} {l : List AV} (r : VecI lo H v l) (hk : ∀ c, lo ≤ c → H'.t.get c = H.t.get c) : VecI lo H' v l := by
  rcases r with r | ⟨b, fz, h1, h2, h3, h4, h5⟩
  · exact .inl r
  · exact .inr ⟨b, fz, h1, h2, by rw [hk b h2]; exact h3, h4, h5⟩
theorem VecI.ne {lo : Nat} {H : AH} {v : AV} {l : List AV} (r : VecI lo H v l) {c : Nat} (hc : c < lo) (n : Nat) : v ≠ .sliceU c 0 n 1 := by
  rcases r with ⟨rfl, _⟩ | ⟨b, fz, rfl, h2, _⟩
  · intro e; cases e
  · intro e; injection e with e; omega
theorem VecI.keep' {lo : Nat} {H H' : AH} {v : AV} {l : List AV} (r : VecI lo H v l) (hk : ∀ b x n, v = .sliceU b 0 n 1 → lo ≤ b → H.t.get b = some x → H'.t.get b = H.t.get b) : VecI lo H' v l := by
  rcases r with r | ⟨b, fz, h1, h2, h3, h4, h5⟩
  · exact .inl r
  · exact .inr ⟨b, fz, h1, h2, by rw [hk b _ _ h1 h2 h3]; exact h3, h4, h5⟩
theorem VecI.get {lo : Nat} {H : AH} {v : AV} {l : List AV} (r : VecI lo H v l) {c n : Nat} (h : v = .sliceU c 0 n 1) : lo ≤ c ∧ ∃ x, H.t.get c = some x := by
  subst h
  rcases r with ⟨e, _⟩ | ⟨b, fz, e, h2, h3, _⟩
  · cases e
  · injection e with e; subst e; exact ⟨h2, _, h3⟩
/-- A row more. -/
theorem TabI.snoc {lo w w' m : Nat} {H H' : AH} {tv tv' rv : AV} {t : List (List Int)} {rvs : List AV} {row : List Int} (q : TabI lo w H tv t rvs) (hlow : ∀ b x, H.t.get b = some x → b < H.next) (hv : VecI lo H' tv' (rvs ++ [rv])) (hnew : ∀ c n, tv' = .sliceU c 0 n 1 → H.next ≤ c)
    (hk : ∀ c, lo ≤ c → c < H.next → (∀ n, tv ≠ .sliceU c 0 n 1) → H'.t.get c = H.t.get c) (hm : lo ≤ m) (htv : ∀ c n, tv = .sliceU c 0 n 1 → c < m) (hr : VecI m H rv (intsAV row)) (hx : ∀ x ∈ row, 0 ≤ x ∧ x ≤ 30) (hw : w + row.length ≤ w') (hw1 : w + 1 ≤ w') :
    TabI lo w' H' tv' (t ++ [row]) (rvs ++ [rv]) := by
  refine ⟨hv, by rw [List.length_append, List.length_append, q.len]; rfl, fun i l hl => ?_, ?_, ?_⟩
  · by_cases hi : i < t.length
    · rw [List.getElem?_append_left hi] at hl
      obtain ⟨rv2, h1, h2, h3, h4, h5, h6⟩ := q.row i l hl
      refine ⟨rv2, by rw [List.getElem?_append_left (by rw [q.len]; exact hi)]; exact h1, h2.keep' fun b x n e hb hx => hk b hb (hlow b x hx) fun k => h5 b n k e, h3, h4, fun c n k e e' => ?_, h6⟩
      obtain ⟨_, x, hx⟩ := h2.get e
      have := hlow _ _ hx
      have := hnew c k e'
      omega
    · have hi2 : i = t.length := by
        have := (List.getElem?_eq_some_iff.1 hl).1
        rw [List.length_append] at this
        simp at this
        omega
      subst hi2
      rw [List.getElem?_append_right (Nat.le_refl _), Nat.sub_self] at hl
      simp only [List.getElem?_cons_zero, Option.some.injEq] at hl
      subst hl
      refine ⟨rv, by rw [← q.len, List.getElem?_append_right (Nat.le_refl _), Nat.sub_self]; rfl, (hr.keep' fun b x n e hb hx => hk b (by omega) (hlow b x hx) fun k e' => ?_).mono hm, hr.one.1, hr.one.2, fun c n k e e' => ?_, hx⟩
      · have := htv b k e'; omega
      · obtain ⟨_, x, hx⟩ := hr.get e
        have := hlow _ _ hx
        have := hnew c k e'
        omega
  · rw [List.length_append]; have := q.wl; simp; omega
  · rw [List.map_append, List.sum_append]; have := q.ws; simp; omega
theorem TabT.nil (H : AH) (R : Nat → AV) : TabT H .nils [] R := ⟨fun _ => rfl, fun i l hl => by simp at hl, fun i l hl => by simp at hl, fun i l j x hl => by simp at hl⟩
theorem str_neq {ty : PT ATy} {t : TypeId} {k : Bool} {a b : List UInt8} : binV ty .neq t k (.str a) (.str b) = some (.bool (!decide (a = b))) := by
  have : evBin ty .neq t (.str a) (.str b) = some (.bool (!decide (a = b))) := by
    show mkB (Bool.not (eqS a b)) = _
    rw [mkB_eq, eqS_eq, show (a == b) = decide (a = b) by rw [Bool.eq_iff_iff]; simp]
  show (match evBin ty .neq t (.str a) (.str b) with | some v => some v | none => samePtr ty .neq t (.str a) (.str b)) = _
  rw [this]
theorem str_eql {ty : PT ATy} {t : TypeId} {k : Bool} {a b : List UInt8} : binV ty .eql t k (.str a) (.str b) = some (.bool (decide (a = b))) := by
  have : evBin ty .eql t (.str a) (.str b) = some (.bool (decide (a = b))) := by
    show mkB (eqS a b) = _
    rw [mkB_eq, eqS_eq, show (a == b) = decide (a = b) by rw [Bool.eq_iff_iff]; simp]
  show (match evBin ty .eql t (.str a) (.str b) with | some v => some v | none => samePtr ty .eql t (.str a) (.str b)) = _
  rw [this]
theorem str_add {ty : PT ATy} {t : TypeId} {k : Bool} {a b : List UInt8} (h : a.length + b.length < 4294967296) : binV ty .add t k (.str a) (.str b) = some (.str (a ++ b)) := by
  have : evBin ty .add t (.str a) (.str b) = some (.str (a ++ b)) := by
    show cnd (Nat.blt (Nat.add (len a) (len b)) 4294967296) (forceL (a ++ b) fun l => some (AV.str l)) none = _
    rw [len_eq, len_eq]
    show cnd (Nat.blt (a.length + b.length) 4294967296) _ _ = _
    rw [blt_iff.2 h, forceL_eq]
    rfl
  show (match evBin ty .add t (.str a) (.str b) with | some v => some v | none => samePtr ty .add t (.str a) (.str b)) = _
  rw [this]
theorem mine_del {h h' : AH} (o : Mine h h') {b : Nat} (hb : h.next ≤ b) : Mine h (h'.del b) :=
  ⟨fun c x e => by
    have := o.low c x e
    rw [get_del, if_neg (by omega)]
    exact o.ext c x e, o.low, fun c x e => by
    rw [get_del] at e
    rw [next_del]
    split at e
    · cases e
    · exact o.lowN c x e, by rw [next_del]; exact o.next, by rw [mark_del]; exact o.mark, by
    rw [log_del]
    unfold logged
    cases q : Nat.blt b h'.mark with
    | true => have := blt_iff.1 q; rw [o.mark] at this; omega
    | false => exact o.log⟩
theorem atEnd21 {e : X} {T : PT AV} {H : AH} {d a b z z' : Nat} {tv : AV} {x : Int} (he : (match e with | .norm => True | .ret => True | _ => False)) (hd : H.t.get d = some .deferred) (t2 : T.get 2 = some (.ptr a 0)) (t3 : T.get 3 = some (.ptr b 0))
    (ha : (H.del d).t.get a = some (.cells [tv] z)) (hb : (H.del d).t.get b = some (.cells [.int .i64 x] z')) : atEnd Tryz.ctx Tryz.f21 ⟨e, T, [d], H⟩ = .one ⟨.tup [.agg [tv], .int .i64 x], H.del d⟩ := by
  have k1 : known (H.del d) a = some ([tv], z) := by unfold known; rw [ha]
  have k2 : known (H.del d) b = some ([.int .i64 x], z') := by unfold known; rw [hb]
  have hres : Tryz.f21.results.toList = [.cell 2 24, .cell 3 29] := rfl
  have r1 : resOf Tryz.ctx.ty T (H.del d) (.cell 2 24) = some (.agg [tv]) := by unfold resOf; simp only [Tryz.ty24, t2, k1]; rfl
  have r2 : resOf Tryz.ctx.ty T (H.del d) (.cell 3 29) = some (.int .i64 x) := by unfold resOf; simp only [Tryz.ty29, t3, k2]; rfl
  have hdm : dropMarks [d] H = some (H.del d) := by unfold dropMarks; rw [hd]; rfl
  unfold atEnd
  cases e <;> first | (exact he.elim; done) | (simp only [hdm, hres, ressOf, r1, r2]; rfl)
theorem Tryz.bd24s (h : AH) (b o n k : Nat) : evBuild Tryz.ctx.ty Tryz.y24 [(0, .sliceU b o n k)] h = .val (.agg [.sliceU b o n k]) h := by rfl
theorem Tryz.bd24n (h : AH) : evBuild Tryz.ctx.ty Tryz.y24 [(0, .nils)] h = .val (.agg [.nils]) h := by rfl
theorem VecI.bd {lo : Nat} {H : AH} {v : AV} {l : List AV} (r : VecI lo H v l) (h : AH) : evBuild Tryz.ctx.ty Tryz.y24 [(0, v)] h = .val (.agg [v]) h := by
  rcases r with ⟨rfl, _⟩ | ⟨b, fz, rfl, _⟩
  · exact Tryz.bd24n h
  · exact Tryz.bd24s h b 0 _ 1
theorem load24 {H : AH} {b z : Nat} {v : AV} (hb : H.t.get b = some (.cells [v] z)) : evLoad Tryz.y24 (.ptr b 0) H = .val (.agg [v]) H := by
  rw [load_ptr, hb]
  rfl
theorem TabI.kind {lo w n : Nat} {H : AH} {tv : AV} {t : List (List Int)} {rvs : List AV} (q : TabI lo w H tv t rvs) (hn : n ≤ lo) : (tv = .nils ∧ t = []) ∨ ∃ b k, tv = .sliceU b 0 k 1 ∧ n ≤ b := by
  rcases q.vec with ⟨h1, h2⟩ | ⟨b, fz, h1, h2, _⟩
  · have := q.len
    rw [h2] at this
    exact .inl ⟨h1, List.eq_nil_of_length_eq_zero this.symm⟩
  · exact .inr ⟨b, _, h1, by omega⟩
theorem wt_sum (t : List (List Int)) : wt t = 2 * t.length + 22 * (t.map List.length).sum := by
  unfold wt
  induction t with
  | nil => rfl
  | cons l t ih => simp only [List.map_cons, List.sum_cons, List.length_cons, ih]; omega
/-- The heap's part that a reader of a table keeps. -/
structure St21 (n0 : Nat) (e : Int) (H : AH) : Prop where
  next : n0 + 8 ≤ H.next
  q : H.t.get n0 = some (.cells [.nils] (fzNew 24))
  e : H.t.get (n0 + 1) = some (.cells [.int .i64 e] (fzNew 29))
  d : H.t.get (n0 + 6) = some .deferred
theorem St21.keep {n0 : Nat} {e : Int} {H H' : AH} (q : St21 n0 e H) (hn : H.next ≤ H'.next) (hk : ∀ c, c < n0 + 7 → c ≠ n0 + 2 → c ≠ n0 + 3 → H'.t.get c = H.t.get c) : St21 n0 e H' :=
  ⟨Nat.le_trans q.next hn, by rw [hk _ (by omega) (by omega) (by omega)]; exact q.q, by rw [hk _ (by omega) (by omega) (by omega)]; exact q.e, by rw [hk _ (by omega) (by omega) (by omega)]; exact q.d⟩
theorem Bz : type_of% (And.intro @op_build0 (And.intro @op_build1 (And.intro @Tryz.bd24 @Tryz.bd27))) :=
  And.intro @op_build0 (And.intro @op_build1 (And.intro @Tryz.bd24 @Tryz.bd27))
theorem B2 : type_of% (And.intro Bn (And.intro By Bz)) :=
  And.intro Bn (And.intro By Bz)
theorem B3 : type_of% (And.intro B2 Bl) :=
  And.intro B2 Bl
end Go.Proofs
namespace Go.Proofs
open Go.Ev
set_option maxRecDepth 100000
/-- What is known of a slice that has been appended to: it is nil, or new. -/
def NewV {α : Type} (lo : Nat) (v : AV) (l : List α) : Prop := (v = .nils ∧ l = []) ∨ ∃ b n, v = .sliceU b 0 n 1 ∧ lo ≤ b
theorem NewV.one {α : Type} {lo : Nat} {v : AV} {l : List α} (n : NewV lo v l) : v.one = true ∧ v.cells = [v] := by
  rcases n with ⟨rfl, _⟩ | ⟨b, n, rfl, _⟩ <;> exact ⟨rfl, rfl⟩
theorem VecI.newV {lo : Nat} {H : AH} {v : AV} {l : List Int} (r : VecI lo H v (intsAV l)) : NewV lo v l := by
  rcases r with ⟨rfl, h⟩ | ⟨b, fz, h1, h2, _⟩
  · exact .inl ⟨rfl, by unfold intsAV at h; simpa using h⟩
  · exact .inr ⟨b, _, h1, h2⟩
/-- What quandle.Parse leaves. -/
structure Out21 (h : AH) (e : Int) (tv : AV) (h' : AH) : Prop where
  ext : Ext h h'
  lowN : ∀ b x, h'.t.get b = some x → b < h'.next
  next : h.next ≤ h'.next
  mark : h'.mark = h.mark
  log : h'.log = h.log
  tab : ∃ t R, (∀ H' : AH, (∀ c, h.next ≤ c → H'.t.get c = h'.t.get c) → TabT H' tv t R) ∧ NewV h.next tv t ∧ t.length ≤ 10001 ∧ wt t ≤ 16000000 ∧ ∀ l ∈ t, ∀ x ∈ l, 0 ≤ x ∧ x ≤ 30
theorem Tryz.c21 {S : Summ} (hS : S.get 21 = none) (hS40 : S.get 40 = none) (hS50 : S.get 50 = none) (hS77 : S.get 77 = none) (hS88 : S.get 88 = none) (hS51 : S.get 51 = none) (h16 : S.get 16 = some sItoa)
    (hS19 : S.get 19 = none) (hS41 : S.get 41 = none) (hS42 : S.get 42 = none) (hS43 : S.get 43 = none)
    (hS45 : S.get 45 = none) (hS79 : S.get 79 = none) (hS148 : S.get 148 = none) (h82 : S.get 82 = some sIndex) (h23 : S.get 23 = some sAtoi) {h : AH} (low : ∀ b x, h.t.get b = some x → b < h.next) {s : List UInt8} (hs : s.length ≤ 10000) :
    ∃ tv e h', RunCall Tryz.ctx S 21 [.str s] h ⟨.tup [.agg [tv], .int .i64 e], h'⟩ ∧ Out21 h e tv h' := by
  have key : WRun Tryz.ctx S 21 Tryz.f21.ntmps none (Tryz.f21.body.getD .skip) (argsT [.str s] 0 .leaf) [] ⟨h.t, h.next, h.next, []⟩ fun e T df h' => (match e with | .norm => True | .ret => True | _ => False) ∧
      ∃ tv x H, atEnd Tryz.ctx Tryz.f21 ⟨e, T, df, h'⟩ = .one ⟨.tup [.agg [tv], .int .i64 x], H⟩ ∧ Mine h H ∧ ∃ t R, (∀ H' : AH, (∀ c, h.next ≤ c → H'.t.get c = H.t.get c) → TabT H' tv t R) ∧ t.length ≤ 10001 ∧ wt t ≤ 16000000 ∧ (∀ l ∈ t, ∀ x ∈ l, 0 ≤ x ∧ x ≤ 30) ∧ ((tv = .nils ∧ t = []) ∨ ∃ b n, tv = .sliceU b 0 n 1 ∧ h.next ≤ b) := by
    have z24 : Tryz.y24.zero = [.nils] := rfl
    have z29 : Tryz.y29.zero = [.int .i64 0] := rfl
    have z22 : Tryz.y22.zero = [.nils] := rfl
    have z25 : Tryz.y25.zero = [.nils] := rfl
    have ls : ∀ h' : AH, evLen Tryz.ctx.ty Tryz.y9 (.str s) h' = some (.int .i64 s.length) := fun h' => len_strE rfl
    have hsl : decide ((65536 : Int) < (s.length : Int)) = false := by simp; omega
    have M0 := Mine.start low
    have M1 := M0.add (.cells [.nils] (fzNew 24))
    have M2 := M1.add (.cells [.int .i64 0] (fzNew 29))
    have M3 := M2.add (.cells [.nils] (fzNew 22))
    have g0 : (argsT [.str s] 0 .leaf).get 0 = some (.str s) := rfl
    generalize argsT [.str s] 0 .leaf = T at g0
    (first | refine WRun.seq (WRun.region ?_) | refine WRun.seq (WRun.seq (WRun.region ?_)) | refine WRun.region ?_ | refine WRun.seq (WRun.seq (WRun.seq (WRun.region ?_)))); ((repeat (first | refine WOps.a rfl (by simp only [reduceIte, Nat.reduceEqDiff, Nat.reduceAdd, B3, g0, z24, z29] <;> rfl) ?_ | refine WOps.b rfl rfl rfl (by simp only [reduceIte, Nat.reduceEqDiff, Nat.reduceAdd, B3, g0, z24, z29] <;> rfl) ?_)); refine WOps.nil ?_)
    (first | refine WRun.seq (WRun.region ?_) | refine WRun.seq (WRun.seq (WRun.region ?_)) | refine WRun.region ?_ | refine WRun.seq (WRun.seq (WRun.seq (WRun.region ?_)))); ((repeat (first | refine WOps.a rfl (by simp only [reduceIte, Nat.reduceEqDiff, Nat.reduceAdd, B3, g0, ls, hsl] <;> rfl) ?_ | refine WOps.b rfl rfl rfl (by simp only [reduceIte, Nat.reduceEqDiff, Nat.reduceAdd, B3, g0, ls, hsl] <;> rfl) ?_)); refine WOps.nil ?_)
    (first | refine WRun.condF (by simp only [reduceIte, Nat.reduceEqDiff, Nat.reduceAdd, B3, hsl] <;> rfl) ?_ | refine WRun.seq (WRun.condF (by simp only [reduceIte, Nat.reduceEqDiff, Nat.reduceAdd, B3, hsl] <;> rfl) ?_))
    refine WRun.skip ?_
    (first | refine WRun.seq (WRun.region ?_) | refine WRun.seq (WRun.seq (WRun.region ?_)) | refine WRun.region ?_ | refine WRun.seq (WRun.seq (WRun.seq (WRun.region ?_)))); ((repeat (first | refine WOps.a rfl (by simp only [reduceIte, Nat.reduceEqDiff, Nat.reduceAdd, B3, g0, z22] <;> rfl) ?_ | refine WOps.b rfl rfl rfl (by simp only [reduceIte, Nat.reduceEqDiff, Nat.reduceAdd, B3, g0, z22] <;> rfl) ?_)); refine WOps.nil ?_)
    refine WRun.seq (WRun.seq (WRun.region ?_))
    iterate 1 (first | refine WOps.a rfl (by simp only [reduceIte, Nat.reduceEqDiff, Nat.reduceAdd, B3, g0] <;> rfl) ?_ | refine WOps.vG ((guard_bool rfl rfl (by simp only [reduceIte, Nat.reduceEqDiff, Nat.reduceAdd, B3, g0] <;> rfl)).trans rfl) (by simp only [reduceIte, Nat.reduceEqDiff, Nat.reduceAdd, B3, g0] <;> rfl) rfl ?_ | refine WOps.nG (by first | exact (guard_bool rfl rfl (by simp only [reduceIte, Nat.reduceEqDiff, Nat.reduceAdd, B3, g0] <;> rfl)).trans rfl | exact guard_not rfl rfl (by simp only [reduceIte, Nat.reduceEqDiff, Nat.reduceAdd, B3, g0] <;> rfl)) rfl ?_)
    have e45 := Tryz.c45 (S := S) hS45 hS79 (h := (((⟨h.t, h.next, h.next, []⟩ : AH).add (.cells [.nils] (fzNew 24))).add (.cells [.int .i64 0] (fzNew 29))).add (.cells [.nils] (fzNew 22))) (s := s) (p := [59, 32])
    rw [box3_eq] at e45
    refine WOps.cN (op_call2 (v := .str s) (u := .str [59, 32]) (by simp only [reduceIte, Nat.reduceEqDiff, Nat.reduceAdd, B3, g0] <;> rfl) rfl Tryz.fn45 Tryz.ex45) e45 rfl ?_
    refine WOps.nil ?_
    have n0 : ((((⟨h.t, h.next, h.next, []⟩ : AH).add (.cells [.nils] (fzNew 24))).add (.cells [.int .i64 0] (fzNew 29))).add (.cells [.nils] (fzNew 22))).next = h.next + 3 := rfl
    rw [n0]
    have M4 : Mine h (box3 ((((⟨h.t, h.next, h.next, []⟩ : AH).add (.cells [.nils] (fzNew 24))).add (.cells [.int .i64 0] (fzNew 29))).add (.cells [.nils] (fzNew 22))) s [59, 32]) := ((M3.add _).add _).add _
    have nb : (box3 ((((⟨h.t, h.next, h.next, []⟩ : AH).add (.cells [.nils] (fzNew 24))).add (.cells [.int .i64 0] (fzNew 29))).add (.cells [.nils] (fzNew 22))) s [59, 32]).next = h.next + 6 := rfl
    have b0 : (box3 ((((⟨h.t, h.next, h.next, []⟩ : AH).add (.cells [.nils] (fzNew 24))).add (.cells [.int .i64 0] (fzNew 29))).add (.cells [.nils] (fzNew 22))) s [59, 32]).t.get h.next = some (.cells [.nils] (fzNew 24)) := by
      unfold box3; simp only [get_add, next_add]; repeat (first | rfl | rw [if_pos (by omega)] | rw [if_neg (by omega)])
    have b1 : (box3 ((((⟨h.t, h.next, h.next, []⟩ : AH).add (.cells [.nils] (fzNew 24))).add (.cells [.int .i64 0] (fzNew 29))).add (.cells [.nils] (fzNew 22))) s [59, 32]).t.get (h.next + 1) = some (.cells [.int .i64 0] (fzNew 29)) := by
      unfold box3; simp only [get_add, next_add]; repeat (first | rfl | rw [if_pos (by omega)] | rw [if_neg (by omega)])
    have b2 : (box3 ((((⟨h.t, h.next, h.next, []⟩ : AH).add (.cells [.nils] (fzNew 24))).add (.cells [.int .i64 0] (fzNew 29))).add (.cells [.nils] (fzNew 22))) s [59, 32]).t.get (h.next + 2) = some (.cells [.nils] (fzNew 22)) := by
      unfold box3; simp only [get_add, next_add]; repeat (first | rfl | rw [if_pos (by omega)] | rw [if_neg (by omega)])
    have b3 : (box3 ((((⟨h.t, h.next, h.next, []⟩ : AH).add (.cells [.nils] (fzNew 24))).add (.cells [.int .i64 0] (fzNew 29))).add (.cells [.nils] (fzNew 22))) s [59, 32]).t.get (h.next + 3) = some (.cells [.str s] 0) := by
      unfold box3; simp only [get_add, next_add]; repeat (first | rfl | rw [if_pos (by omega)] | rw [if_neg (by omega)])
    have b4 : (box3 ((((⟨h.t, h.next, h.next, []⟩ : AH).add (.cells [.nils] (fzNew 24))).add (.cells [.int .i64 0] (fzNew 29))).add (.cells [.nils] (fzNew 22))) s [59, 32]).t.get (h.next + 4) = some (.cells [.str [59, 32]] 0) := by
      unfold box3; simp only [get_add, next_add]; repeat (first | rfl | rw [if_pos (by omega)] | rw [if_neg (by omega)])
    have b5 : (box3 ((((⟨h.t, h.next, h.next, []⟩ : AH).add (.cells [.nils] (fzNew 24))).add (.cells [.int .i64 0] (fzNew 29))).add (.cells [.nils] (fzNew 22))) s [59, 32]).t.get (h.next + 5) = some (.cells [.int .i64 0] 0) := by
      unfold box3; simp only [get_add, next_add]; repeat (first | rfl | rw [if_pos (by omega)] | rw [if_neg (by omega)])
    generalize box3 ((((⟨h.t, h.next, h.next, []⟩ : AH).add (.cells [.nils] (fzNew 24))).add (.cells [.int .i64 0] (fzNew 29))).add (.cells [.nils] (fzNew 22))) s [59, 32] = H at M4 nb b0 b1 b2 b3 b4 b5
    clear M0 M1 M2 M3 e45 n0
    refine WRun.block ?_
    refine WRun.withT (P := fun T => T.get 0 = some (.str s) ∧ T.get 2 = some (.ptr h.next 0) ∧ T.get 3 = some (.ptr (h.next + 1) 0) ∧ T.get 4 = some (.ptr (h.next + 2) 0) ∧ T.get 18 = some (.fn 148 [.ptr (h.next + 4) 0, .ptr (h.next + 3) 0, .ptr (h.next + 5) 0])) ⟨(by simp only [reduceIte, Nat.reduceEqDiff, Nat.reduceAdd, B3, g0] <;> rfl), (by simp only [reduceIte, Nat.reduceEqDiff, Nat.reduceAdd, B3, g0] <;> rfl), (by simp only [reduceIte, Nat.reduceEqDiff, Nat.reduceAdd, B3, g0] <;> rfl), (by simp only [reduceIte, Nat.reduceEqDiff, Nat.reduceAdd, B3, g0] <;> rfl), (by simp only [reduceIte, Nat.reduceEqDiff, Nat.reduceAdd, B3, g0] <;> rfl)⟩ ?_
    clear g0 T
    rintro T ⟨t0, t2, t3, t4, t18⟩
    have nd : (H.add .deferred).next = h.next + 7 := by rw [next_add, nb]
    refine Tryz.range (h := h) (h0 := H.add .deferred) (d := h.next + 6) (dfs := [h.next + 6]) (b1 := h.next + 4) (b2 := h.next + 3) (b3 := h.next + 5) (s := s) (sep := [59, 32]) (N := s.length) hS148 h82 (by simp only [reduceIte, Nat.reduceEqDiff, Nat.reduceAdd, B3, t18] <;> rfl) (.inl ⟨rfl, nb.symm, by rw [nb], rfl⟩) rfl ((Own.ofMine M4).add _) (by omega)
      (by rw [get_add, if_neg (by omega)]; exact b4) (by rw [get_add, if_neg (by omega)]; exact b3) (by rw [get_add, if_neg (by omega)]; exact b5) (by omega) (by omega) (by decide) (by decide) (by omega) (Nat.le_refl _)
      (I := fun w Hc => St21 h.next 0 Hc ∧ ∃ tv t rvs, Hc.t.get (h.next + 2) = some (.cells [tv] (fzNew 22)) ∧ TabI (h.next + 8) w Hc tv t rvs) (J := fun Hc => St21 h.next 3 Hc) ?_ ?_ ?_ ?_ ?_ ?_
    · intro w H1 H2 ⟨st, tv, t, rvs, hb4, tab⟩ hk hn
      rw [nd] at hk
      exact ⟨st.keep (by omega) fun c h1 h2 h3 => hk c (by omega) (by omega), tv, t, rvs, by rw [hk _ (by omega) (by omega)]; exact hb4, tab.keep0 fun c hc => hk c (by omega) (by omega)⟩
    · intro H1 H2 st hk hn
      rw [nd] at hk
      exact st.keep (by omega) fun c h1 h2 h3 => hk c (by omega)
    · intro H1 hk hn
      rw [nd] at hk hn
      have hg : ∀ c, c < h.next + 6 → H1.t.get c = H.t.get c := fun c hc => by rw [hk c (by omega), get_add, if_neg (by omega)]
      exact ⟨⟨by omega, by rw [hg _ (by omega)]; exact b0, by rw [hg _ (by omega)]; exact b1, by rw [hk _ (by omega), get_add, if_pos nb.symm]⟩, .nils, [], [], by rw [hg _ (by omega)]; exact b2, ⟨.inl ⟨rfl, rfl⟩, rfl, fun i l hl => by simp at hl, Nat.zero_le _, Nat.zero_le _⟩⟩
    · intro w x H1 H2 O2 ⟨st, tv, t, rvs, hb4, tab⟩ hw eH hl1 hm1 gl1
      rw [nd] at hl1 hm1 gl1 eH ⊢
      have HHb := O2.lowN
      refine WRun.region ?_
      ((repeat (first | refine WOps.a rfl (by simp only [reduceIte, Nat.reduceEqDiff, Nat.reduceAdd, B3, t0] <;> rfl) ?_ | refine WOps.b rfl rfl rfl (by simp only [reduceIte, Nat.reduceEqDiff, Nat.reduceAdd, B3, t0] <;> rfl) ?_)); refine WOps.nil ?_)
      refine ⟨rfl, rfl, rfl, ?_⟩
      refine WRun.withT (P := fun T => T.get 0 = some (.str s) ∧ T.get 2 = some (.ptr h.next 0) ∧ T.get 3 = some (.ptr (h.next + 1) 0) ∧ T.get 4 = some (.ptr (h.next + 2) 0) ∧ T.get 5 = some (.str x)) ⟨(by simp only [reduceIte, Nat.reduceEqDiff, Nat.reduceAdd, B3, t0] <;> rfl), (by simp only [reduceIte, Nat.reduceEqDiff, Nat.reduceAdd, B3, t2] <;> rfl), (by simp only [reduceIte, Nat.reduceEqDiff, Nat.reduceAdd, B3, t3] <;> rfl), (by simp only [reduceIte, Nat.reduceEqDiff, Nat.reduceAdd, B3, t4] <;> rfl), (by simp only [reduceIte, Nat.reduceEqDiff, Nat.reduceAdd, B3, t0] <;> rfl)⟩ ?_
      clear t0 t2 t3 t4 t18 eH
      rintro T ⟨t0, t2, t3, t4, t5⟩
      refine WRun.block ?_
      (first | refine WRun.seq (WRun.region ?_) | refine WRun.seq (WRun.seq (WRun.region ?_)) | refine WRun.region ?_ | refine WRun.seq (WRun.seq (WRun.seq (WRun.region ?_)))); ((repeat (first | refine WOps.a rfl (by simp only [reduceIte, Nat.reduceEqDiff, Nat.reduceAdd, B3, z25] <;> rfl) ?_ | refine WOps.b rfl rfl rfl (by simp only [reduceIte, Nat.reduceEqDiff, Nat.reduceAdd, B3, z25] <;> rfl) ?_)); refine WOps.nil ?_)
      refine WRun.seq (WRun.seq (WRun.region ?_))
      iterate 1 (first | refine WOps.a rfl (by simp only [reduceIte, Nat.reduceEqDiff, Nat.reduceAdd, B3, t5] <;> rfl) ?_ | refine WOps.vG ((guard_bool rfl rfl (by simp only [reduceIte, Nat.reduceEqDiff, Nat.reduceAdd, B3, t5] <;> rfl)).trans rfl) (by simp only [reduceIte, Nat.reduceEqDiff, Nat.reduceAdd, B3, t5] <;> rfl) rfl ?_ | refine WOps.nG (by first | exact (guard_bool rfl rfl (by simp only [reduceIte, Nat.reduceEqDiff, Nat.reduceAdd, B3, t5] <;> rfl)).trans rfl | exact guard_not rfl rfl (by simp only [reduceIte, Nat.reduceEqDiff, Nat.reduceAdd, B3, t5] <;> rfl)) rfl ?_)
      have e45 := Tryz.c45 (S := S) hS45 hS79 (h := H2.add (.cells [.nils] (fzNew 25))) (s := x) (p := [32])
      rw [box3_eq] at e45
      refine WOps.cN (op_call2 (v := .str x) (u := .str [32]) (by simp only [reduceIte, Nat.reduceEqDiff, Nat.reduceAdd, B3, t5] <;> rfl) rfl Tryz.fn45 Tryz.ex45) e45 rfl ?_
      refine WOps.nil ?_
      have nb' : (box3 (H2.add (.cells [.nils] (fzNew 25))) x [32]).next = H2.next + 4 := rfl
      have mb' : (box3 (H2.add (.cells [.nils] (fzNew 25))) x [32]).mark = H2.mark := rfl
      have OB : Own h (box3 (H2.add (.cells [.nils] (fzNew 25))) x [32]) := (((O2.add _).add _).add _).add _
      have old : ∀ c, c < H2.next → (box3 (H2.add (.cells [.nils] (fzNew 25))) x [32]).t.get c = H2.t.get c := fun c hc => by
        unfold box3; simp only [get_add, next_add]; repeat (first | rfl | rw [if_neg (by omega)])
      have c0 : (box3 (H2.add (.cells [.nils] (fzNew 25))) x [32]).t.get H2.next = some (.cells [.nils] (fzNew 25)) := by
        unfold box3; simp only [get_add, next_add]; repeat (first | rfl | rw [if_pos (by omega)] | rw [if_neg (by omega)])
      have c1 : (box3 (H2.add (.cells [.nils] (fzNew 25))) x [32]).t.get (H2.next + 1) = some (.cells [.str x] 0) := by
        unfold box3; simp only [get_add, next_add]; repeat (first | rfl | rw [if_pos (by omega)] | rw [if_neg (by omega)])
      have c2 : (box3 (H2.add (.cells [.nils] (fzNew 25))) x [32]).t.get (H2.next + 2) = some (.cells [.str [32]] 0) := by
        unfold box3; simp only [get_add, next_add]; repeat (first | rfl | rw [if_pos (by omega)] | rw [if_neg (by omega)])
      have c3 : (box3 (H2.add (.cells [.nils] (fzNew 25))) x [32]).t.get (H2.next + 3) = some (.cells [.int .i64 0] 0) := by
        unfold box3; simp only [get_add, next_add]; repeat (first | rfl | rw [if_pos (by omega)] | rw [if_neg (by omega)])
      have na : (H2.add (.cells [.nils] (fzNew 25))).next = H2.next + 1 := rfl
      rw [na]
      generalize box3 (H2.add (.cells [.nils] (fzNew 25))) x [32] = HB at nb' mb' OB old c0 c1 c2 c3
      clear e45 na
      have hm8 : h.next + 8 ≤ H2.next := st.next
      generalize hmq : H2.next = m at nb' old c0 c1 c2 c3 hm8 hl1 ⊢
      refine WRun.withT (P := fun T => T.get 0 = some (.str s) ∧ T.get 2 = some (.ptr h.next 0) ∧ T.get 3 = some (.ptr (h.next + 1) 0) ∧ T.get 4 = some (.ptr (h.next + 2) 0) ∧ T.get 6 = some (.ptr m 0) ∧ T.get 21 = some (.fn 148 [.ptr (m + 2) 0, .ptr (m + 1) 0, .ptr (m + 3) 0])) ⟨(by simp only [reduceIte, Nat.reduceEqDiff, Nat.reduceAdd, B3, t0] <;> rfl), (by simp only [reduceIte, Nat.reduceEqDiff, Nat.reduceAdd, B3, t2] <;> rfl), (by simp only [reduceIte, Nat.reduceEqDiff, Nat.reduceAdd, B3, t3] <;> rfl), (by simp only [reduceIte, Nat.reduceEqDiff, Nat.reduceAdd, B3, t4] <;> rfl), (by simp only [reduceIte, Nat.reduceEqDiff, Nat.reduceAdd, B3, t0] <;> rfl), (by simp only [reduceIte, Nat.reduceEqDiff, Nat.reduceAdd, B3, t0] <;> rfl)⟩ ?_
      clear t0 t2 t3 t4 t5 T
      rintro T ⟨t0, t2, t3, t4, t6, t21⟩
      refine WRun.block ?_
      have hxN : x.length ≤ 10000 := by omega
      refine Tryz.range (h := h) (h0 := HB) (d := h.next + 6) (dfs := []) (b1 := m + 2) (b2 := m + 1) (b3 := m + 3) (s := x) (sep := [32]) (N := x.length) hS148 h82 (by simp only [reduceIte, Nat.reduceEqDiff, Nat.reduceAdd, B3, t21] <;> rfl) (.inr ⟨h.next + 7, _, _, _, _, _, _, _, _, rfl, (old _ (by omega)).trans gl1, rfl, rfl⟩) rfl OB (by omega) c2 c1 c3 (by omega) (by omega) (by decide) (by decide) (by omega) (Nat.le_refl _)
        (I := fun w2 Hc => m + 5 ≤ Hc.next ∧ (∀ c, c < m → Hc.t.get c = H2.t.get c) ∧ ∃ rv row, Hc.t.get m = some (.cells [rv] (fzNew 25)) ∧ VecI (m + 5) Hc rv (intsAV row) ∧ row.length ≤ w2 ∧ ∀ y ∈ row, 0 ≤ y ∧ y ≤ 30)
        (J := fun Hc => m + 5 ≤ Hc.next ∧ (∀ c, c < m → c ≠ h.next → c ≠ h.next + 1 → Hc.t.get c = H2.t.get c) ∧ Hc.t.get h.next = some (.cells [.nils] (fzNew 24)) ∧ Hc.t.get (h.next + 1) = some (.cells [.int .i64 3] (fzNew 29))) ?_ ?_ ?_ ?_ ?_ ?_
      · intro w2 Ha Hb ⟨i1, i2, rv, row, i3, i4, i5, i6⟩ hk hn
        rw [nb'] at hk
        exact ⟨by omega, fun c hc => by rw [hk c (by omega) (by omega)]; exact i2 c hc, rv, row, by rw [hk m (by omega) (by omega)]; exact i3, i4.keep0 fun c hc => hk c (by omega) (by omega), i5, i6⟩
      · intro Ha Hb ⟨i1, i2, i3, i4⟩ hk hn
        rw [nb'] at hk
        exact ⟨by omega, fun c hc h1 h2 => by rw [hk c (by omega)]; exact i2 c hc h1 h2, by rw [hk _ (by omega)]; exact i3, by rw [hk _ (by omega)]; exact i4⟩
      · intro Ha hk hn
        rw [nb'] at hk hn
        exact ⟨by omega, fun c hc => by rw [hk c (by omega)]; exact old c hc, .nils, [], by rw [hk m (by omega)]; exact c0, .inl ⟨rfl, rfl⟩, Nat.zero_le _, by simp⟩
      · intro w2 y Ha Hb Ob ⟨i1, i2, rv, row, i3, i4, i5, i6⟩ hw2 eHb hl2 hm2 gl2
        rw [nb'] at hl2 hm2 gl2 eHb ⊢
        refine WRun.region ?_
        ((repeat (first | refine WOps.a rfl (by simp only [reduceIte, Nat.reduceEqDiff, Nat.reduceAdd, B3, t0] <;> rfl) ?_ | refine WOps.b rfl rfl rfl (by simp only [reduceIte, Nat.reduceEqDiff, Nat.reduceAdd, B3, t0] <;> rfl) ?_)); refine WOps.nil ?_)
        refine ⟨rfl, rfl, rfl, ?_⟩
        refine WRun.withT (P := fun T => T.get 2 = some (.ptr h.next 0) ∧ T.get 3 = some (.ptr (h.next + 1) 0) ∧ T.get 6 = some (.ptr m 0) ∧ T.get 7 = some (.str y)) ⟨(by simp only [reduceIte, Nat.reduceEqDiff, Nat.reduceAdd, B3, t2] <;> rfl), (by simp only [reduceIte, Nat.reduceEqDiff, Nat.reduceAdd, B3, t3] <;> rfl), (by simp only [reduceIte, Nat.reduceEqDiff, Nat.reduceAdd, B3, t6] <;> rfl), (by simp only [reduceIte, Nat.reduceEqDiff, Nat.reduceAdd, B3, t0] <;> rfl)⟩ ?_
        clear t0 t2 t3 t4 t6 t21 eHb gl2 T
        rintro T ⟨t2, t3, t6, t7⟩
        refine WRun.block ?_
        obtain ⟨v, iv, nx, bad, q1, hnx, q2⟩ := cAtoi' (S := S) h23 (s := y) (by omega) Hb
        refine WRun.seq (WRun.region ?_)
        iterate 1 (first | refine WOps.a rfl (by simp only [reduceIte, Nat.reduceEqDiff, Nat.reduceAdd, B3, t7] <;> rfl) ?_ | refine WOps.vG ((guard_bool rfl rfl (by simp only [reduceIte, Nat.reduceEqDiff, Nat.reduceAdd, B3, t7] <;> rfl)).trans rfl) (by simp only [reduceIte, Nat.reduceEqDiff, Nat.reduceAdd, B3, t7] <;> rfl) rfl ?_ | refine WOps.nG (by first | exact (guard_bool rfl rfl (by simp only [reduceIte, Nat.reduceEqDiff, Nat.reduceAdd, B3, t7] <;> rfl)).trans rfl | exact guard_not rfl rfl (by simp only [reduceIte, Nat.reduceEqDiff, Nat.reduceAdd, B3, t7] <;> rfl)) rfl ?_)
        refine WOps.cN (op_call1 (v := .str y) (by simp only [reduceIte, Nat.reduceEqDiff, Nat.reduceAdd, B3, t7] <;> rfl) Tryz.fn23 Tryz.ex23) q1 rfl ?_
        ((repeat (first | refine WOps.a rfl (by simp only [reduceIte, Nat.reduceEqDiff, Nat.reduceAdd, B3, t7] <;> rfl) ?_ | refine WOps.b rfl rfl rfl (by simp only [reduceIte, Nat.reduceEqDiff, Nat.reduceAdd, B3, t7] <;> rfl) ?_)); refine WOps.nil ?_)
        cases bad with
        | true =>
          · -- an error
            (first | refine WRun.seq (WRun.region ?_) | refine WRun.seq (WRun.seq (WRun.region ?_)) | refine WRun.region ?_ | refine WRun.seq (WRun.seq (WRun.seq (WRun.region ?_)))); ((repeat (first | refine WOps.a rfl (by simp only [reduceIte, Nat.reduceEqDiff, Nat.reduceAdd, B3, q2] <;> rfl) ?_ | refine WOps.b rfl rfl rfl (by simp only [reduceIte, Nat.reduceEqDiff, Nat.reduceAdd, B3, q2] <;> rfl) ?_)); refine WOps.nil ?_)
            (first | refine WRun.condT (by simp only [reduceIte, Nat.reduceEqDiff, Nat.reduceAdd, B3, q2] <;> rfl) ?_ | refine WRun.seq (WRun.condT (by simp only [reduceIte, Nat.reduceEqDiff, Nat.reduceAdd, B3, q2] <;> rfl) ?_))
            have sw1 : evStore Tryz.y24 (.ptr h.next 0) (.agg [.nils]) ⟨Hb.t, nx, Hb.mark, Hb.log⟩ = .skip ((⟨Hb.t, nx, Hb.mark, Hb.log⟩ : AH).set h.next (.cells [.nils] (fzNew 24))) := store_cells1 (c := [.nils]) rfl rfl rfl (by show Hb.t.get h.next = _; rw [i2 _ (by omega)]; exact st.q) (by rw [fz25]; decide) (by decide)
            have sw2 : evStore Tryz.y29 (.ptr (h.next + 1) 0) (.int .i64 3) ((⟨Hb.t, nx, Hb.mark, Hb.log⟩ : AH).set h.next (.cells [.nils] (fzNew 24))) = .skip (((⟨Hb.t, nx, Hb.mark, Hb.log⟩ : AH).set h.next (.cells [.nils] (fzNew 24))).set (h.next + 1) (.cells [.int .i64 3] (fzNew 29))) :=
              store_cells1 (c := [.int .i64 0]) rfl rfl rfl (by rw [get_set, if_neg (by omega)]; show Hb.t.get (h.next + 1) = _; rw [i2 _ (by omega)]; exact st.e) (by rw [fz30]; decide) (by decide)
            (first | refine WRun.seq (WRun.region ?_) | refine WRun.seq (WRun.seq (WRun.region ?_)) | refine WRun.region ?_ | refine WRun.seq (WRun.seq (WRun.seq (WRun.region ?_)))); ((repeat (first | refine WOps.a rfl (by simp only [reduceIte, Nat.reduceEqDiff, Nat.reduceAdd, B3, t2, t3, op_storeE, sw1, sw2] <;> rfl) ?_ | refine WOps.b rfl rfl rfl (by simp only [reduceIte, Nat.reduceEqDiff, Nat.reduceAdd, B3, t2, t3, op_storeE, sw1, sw2] <;> rfl) ?_)); refine WOps.nil ?_)
            refine WRun.ret ⟨((Ob.bump hnx).set (by omega) (by show h.next < nx; omega) _).set (by omega) (by show h.next + 1 < nx; omega) _, rfl, hnx, fun c hc => ?_, by show m + 5 ≤ nx; omega, fun c h1 h2 h3 => ?_, ?_, ?_⟩
            · rw [get_set, if_neg (by omega), get_set, if_neg (by omega)]
            · rw [get_set, if_neg (by omega), get_set, if_neg (by omega)]; exact i2 c h1
            · rw [get_set, if_neg (by omega), get_set, if_pos rfl]
            · rw [get_set, if_pos rfl]
        | false =>
          cases d1 : decide (v < 0)
          rotate_left
          · -- an error
            (first | refine WRun.seq (WRun.region ?_) | refine WRun.seq (WRun.seq (WRun.region ?_)) | refine WRun.region ?_ | refine WRun.seq (WRun.seq (WRun.seq (WRun.region ?_)))); ((repeat (first | refine WOps.a rfl (by simp only [reduceIte, Nat.reduceEqDiff, Nat.reduceAdd, B3, q2, d1] <;> rfl) ?_ | refine WOps.b rfl rfl rfl (by simp only [reduceIte, Nat.reduceEqDiff, Nat.reduceAdd, B3, q2, d1] <;> rfl) ?_)); refine WOps.nil ?_)
            (first | refine WRun.condT (by simp only [reduceIte, Nat.reduceEqDiff, Nat.reduceAdd, B3, q2, d1] <;> rfl) ?_ | refine WRun.seq (WRun.condT (by simp only [reduceIte, Nat.reduceEqDiff, Nat.reduceAdd, B3, q2, d1] <;> rfl) ?_))
            have sw1 : evStore Tryz.y24 (.ptr h.next 0) (.agg [.nils]) ⟨Hb.t, nx, Hb.mark, Hb.log⟩ = .skip ((⟨Hb.t, nx, Hb.mark, Hb.log⟩ : AH).set h.next (.cells [.nils] (fzNew 24))) := store_cells1 (c := [.nils]) rfl rfl rfl (by show Hb.t.get h.next = _; rw [i2 _ (by omega)]; exact st.q) (by rw [fz25]; decide) (by decide)
            have sw2 : evStore Tryz.y29 (.ptr (h.next + 1) 0) (.int .i64 3) ((⟨Hb.t, nx, Hb.mark, Hb.log⟩ : AH).set h.next (.cells [.nils] (fzNew 24))) = .skip (((⟨Hb.t, nx, Hb.mark, Hb.log⟩ : AH).set h.next (.cells [.nils] (fzNew 24))).set (h.next + 1) (.cells [.int .i64 3] (fzNew 29))) :=
              store_cells1 (c := [.int .i64 0]) rfl rfl rfl (by rw [get_set, if_neg (by omega)]; show Hb.t.get (h.next + 1) = _; rw [i2 _ (by omega)]; exact st.e) (by rw [fz30]; decide) (by decide)
            (first | refine WRun.seq (WRun.region ?_) | refine WRun.seq (WRun.seq (WRun.region ?_)) | refine WRun.region ?_ | refine WRun.seq (WRun.seq (WRun.seq (WRun.region ?_)))); ((repeat (first | refine WOps.a rfl (by simp only [reduceIte, Nat.reduceEqDiff, Nat.reduceAdd, B3, t2, t3, op_storeE, sw1, sw2] <;> rfl) ?_ | refine WOps.b rfl rfl rfl (by simp only [reduceIte, Nat.reduceEqDiff, Nat.reduceAdd, B3, t2, t3, op_storeE, sw1, sw2] <;> rfl) ?_)); refine WOps.nil ?_)
            refine WRun.ret ⟨((Ob.bump hnx).set (by omega) (by show h.next < nx; omega) _).set (by omega) (by show h.next + 1 < nx; omega) _, rfl, hnx, fun c hc => ?_, by show m + 5 ≤ nx; omega, fun c h1 h2 h3 => ?_, ?_, ?_⟩
            · rw [get_set, if_neg (by omega), get_set, if_neg (by omega)]
            · rw [get_set, if_neg (by omega), get_set, if_neg (by omega)]; exact i2 c h1
            · rw [get_set, if_neg (by omega), get_set, if_pos rfl]
            · rw [get_set, if_pos rfl]
          cases d2 : decide (30 < v)
          rotate_left
          · -- an error
            (first | refine WRun.seq (WRun.region ?_) | refine WRun.seq (WRun.seq (WRun.region ?_)) | refine WRun.region ?_ | refine WRun.seq (WRun.seq (WRun.seq (WRun.region ?_)))); ((repeat (first | refine WOps.a rfl (by simp only [reduceIte, Nat.reduceEqDiff, Nat.reduceAdd, B3, q2, d1, d2] <;> rfl) ?_ | refine WOps.b rfl rfl rfl (by simp only [reduceIte, Nat.reduceEqDiff, Nat.reduceAdd, B3, q2, d1, d2] <;> rfl) ?_)); refine WOps.nil ?_)
            (first | refine WRun.condT (by simp only [reduceIte, Nat.reduceEqDiff, Nat.reduceAdd, B3, q2, d1, d2] <;> rfl) ?_ | refine WRun.seq (WRun.condT (by simp only [reduceIte, Nat.reduceEqDiff, Nat.reduceAdd, B3, q2, d1, d2] <;> rfl) ?_))
            have sw1 : evStore Tryz.y24 (.ptr h.next 0) (.agg [.nils]) ⟨Hb.t, nx, Hb.mark, Hb.log⟩ = .skip ((⟨Hb.t, nx, Hb.mark, Hb.log⟩ : AH).set h.next (.cells [.nils] (fzNew 24))) := store_cells1 (c := [.nils]) rfl rfl rfl (by show Hb.t.get h.next = _; rw [i2 _ (by omega)]; exact st.q) (by rw [fz25]; decide) (by decide)
            have sw2 : evStore Tryz.y29 (.ptr (h.next + 1) 0) (.int .i64 3) ((⟨Hb.t, nx, Hb.mark, Hb.log⟩ : AH).set h.next (.cells [.nils] (fzNew 24))) = .skip (((⟨Hb.t, nx, Hb.mark, Hb.log⟩ : AH).set h.next (.cells [.nils] (fzNew 24))).set (h.next + 1) (.cells [.int .i64 3] (fzNew 29))) :=
              store_cells1 (c := [.int .i64 0]) rfl rfl rfl (by rw [get_set, if_neg (by omega)]; show Hb.t.get (h.next + 1) = _; rw [i2 _ (by omega)]; exact st.e) (by rw [fz30]; decide) (by decide)
            (first | refine WRun.seq (WRun.region ?_) | refine WRun.seq (WRun.seq (WRun.region ?_)) | refine WRun.region ?_ | refine WRun.seq (WRun.seq (WRun.seq (WRun.region ?_)))); ((repeat (first | refine WOps.a rfl (by simp only [reduceIte, Nat.reduceEqDiff, Nat.reduceAdd, B3, t2, t3, op_storeE, sw1, sw2] <;> rfl) ?_ | refine WOps.b rfl rfl rfl (by simp only [reduceIte, Nat.reduceEqDiff, Nat.reduceAdd, B3, t2, t3, op_storeE, sw1, sw2] <;> rfl) ?_)); refine WOps.nil ?_)
            refine WRun.ret ⟨((Ob.bump hnx).set (by omega) (by show h.next < nx; omega) _).set (by omega) (by show h.next + 1 < nx; omega) _, rfl, hnx, fun c hc => ?_, by show m + 5 ≤ nx; omega, fun c h1 h2 h3 => ?_, ?_, ?_⟩
            · rw [get_set, if_neg (by omega), get_set, if_neg (by omega)]
            · rw [get_set, if_neg (by omega), get_set, if_neg (by omega)]; exact i2 c h1
            · rw [get_set, if_neg (by omega), get_set, if_pos rfl]
            · rw [get_set, if_pos rfl]
          have hv0 : 0 ≤ v ∧ v ≤ 30 := by have := of_decide_eq_false d1; have := of_decide_eq_false d2; omega
          (first | refine WRun.seq (WRun.region ?_) | refine WRun.seq (WRun.seq (WRun.region ?_)) | refine WRun.region ?_ | refine WRun.seq (WRun.seq (WRun.seq (WRun.region ?_)))); ((repeat (first | refine WOps.a rfl (by simp only [reduceIte, Nat.reduceEqDiff, Nat.reduceAdd, B3, q2, d1, d2] <;> rfl) ?_ | refine WOps.b rfl rfl rfl (by simp only [reduceIte, Nat.reduceEqDiff, Nat.reduceAdd, B3, q2, d1, d2] <;> rfl) ?_)); refine WOps.nil ?_)
          (first | refine WRun.condF (by simp only [reduceIte, Nat.reduceEqDiff, Nat.reduceAdd, B3, d2] <;> rfl) ?_ | refine WRun.seq (WRun.condF (by simp only [reduceIte, Nat.reduceEqDiff, Nat.reduceAdd, B3, d2] <;> rfl) ?_))
          refine WRun.skip ?_
          have ON := Ob.bump hnx
          have iN : ∀ c, (⟨Hb.t, nx, Hb.mark, Hb.log⟩ : AH).t.get c = Hb.t.get c := fun _ => rfl
          have nN : (⟨Hb.t, nx, Hb.mark, Hb.log⟩ : AH).next = nx := rfl
          have mN : (⟨Hb.t, nx, Hb.mark, Hb.log⟩ : AH).mark = Hb.mark := rfl
          generalize (⟨Hb.t, nx, Hb.mark, Hb.log⟩ : AH) = Hn at ON iN nN mN
          have VN : VecI (m + 5) Hn rv (intsAV row) := i4.keep0 fun c _ => iN c
          have gm : Hn.t.get m = some (.cells [rv] (fzNew 25)) := by rw [iN]; exact i3
          have l1 : evLoad Tryz.y25 (.ptr m 0) Hn = .val rv Hn := load_word rfl gm rfl
          have hil : (intsAV row).length = row.length := by unfold intsAV; rw [List.length_map]
          obtain ⟨b', H4, ap, V', O4, m4, _, hb1, hb2, k4⟩ := VN.app Tryz.word25 ON (by omega) (by omega) (x := .int .i64 v) rfl (by omega) (by rw [fz4])
          have gm4 : H4.t.get m = some (.cells [rv] (fzNew 25)) := by rw [k4 m (by omega) fun n => VN.ne (by omega) n]; exact gm
          have sw : evStore Tryz.y25 (.ptr m 0) (.sliceU b' 0 ((intsAV row).length + 1) 1) H4 = .skip (H4.set m (.cells [.sliceU b' 0 ((intsAV row).length + 1) 1] (fzNew 25))) := store_cells1 (c := [rv]) rfl rfl rfl gm4 (by rw [fz26]; decide) (by simp)
          refine WRun.region ?_
          iterate 2 (first | refine WOps.a rfl (by simp only [reduceIte, Nat.reduceEqDiff, Nat.reduceAdd, B2, t6, l1] <;> rfl) ?_ | refine WOps.vG ((guard_bool rfl rfl (by simp only [reduceIte, Nat.reduceEqDiff, Nat.reduceAdd, B2, t6, l1] <;> rfl)).trans rfl) (by simp only [reduceIte, Nat.reduceEqDiff, Nat.reduceAdd, B2, t6, l1] <;> rfl) rfl ?_ | refine WOps.nG (by first | exact (guard_bool rfl rfl (by simp only [reduceIte, Nat.reduceEqDiff, Nat.reduceAdd, B2, t6, l1] <;> rfl)).trans rfl | exact guard_not rfl rfl (by simp only [reduceIte, Nat.reduceEqDiff, Nat.reduceAdd, B2, t6, l1] <;> rfl)) rfl ?_)
          refine WOps.vN (op_buildSlice1 (v := .int .i64 v) rfl (by simp only [reduceIte, Nat.reduceEqDiff, Nat.reduceAdd, B3, t6] <;> rfl) Tryz.ty25 Tryz.word25 rfl rfl) rfl ?_
          refine WOps.vN ((op_append (u := rv) (v := .slice Hn.next 0 1 1) (a := Tryz.y25) (a2 := Tryz.y25) (by simp only [reduceIte, Nat.reduceEqDiff, Nat.reduceAdd, B3, t6] <;> rfl) (by simp only [reduceIte, Nat.reduceEqDiff, Nat.reduceAdd, B3, t6] <;> rfl) Tryz.ty25 Tryz.ty25 rfl).trans ap) rfl ?_
          refine WOps.eN (by simp only [reduceIte, Nat.reduceEqDiff, Nat.reduceAdd, B3, t6, op_storeE, sw] <;> rfl) ?_
          refine WOps.nil ?_
          have k4' : ∀ c, c < m + 5 → c ≠ m → (H4.set m (.cells [.sliceU b' 0 ((intsAV row).length + 1) 1] (fzNew 25))).t.get c = Hb.t.get c := fun c hc hcm => by
            rw [get_set, if_neg hcm, k4 c (by omega) fun n => VN.ne hc n, iN]
          refine ⟨O4.set (by omega) (by omega) _, by rw [mark_set, m4, mN], by rw [next_set]; omega, fun c hc => k4' c (by omega) (by omega), by rw [next_set]; omega, fun c hc => by rw [k4' c (by omega) (by omega)]; exact i2 c hc, _, row ++ [v], by rw [get_set, if_pos rfl], ?_, by rw [List.length_append]; simp; omega, ?_⟩
          · have : intsAV (row ++ [v]) = intsAV row ++ [.int .i64 v] := by unfold intsAV; rw [List.map_append]; rfl
            rw [this]
            exact V'.keep0 fun c hc => by rw [get_set, if_neg (by omega)]
          · intro z hz
            rcases List.mem_append.1 hz with hz | hz
            · exact i6 z hz
            · rw [List.mem_singleton] at hz; subst hz; exact hv0
      · intro w2 Hc hw2 Oc hmc hlc ⟨i1, i2, rv, row, i3, i4, i5, i6⟩
        have tabc := tab.keep (H' := Hc) (fun c _ hc => i2 c (by omega)) HHb
        have htvm : ∀ c n, tv = .sliceU c 0 n 1 → c < m := fun c n e => by
          obtain ⟨_, y, hy⟩ := tab.vec.get e
          have := HHb _ _ hy; omega
        have g4 : Hc.t.get (h.next + 2) = some (.cells [tv] (fzNew 22)) := by rw [i2 _ (by omega)]; exact hb4
        have l4 : evLoad Tryz.y22 (.ptr (h.next + 2) 0) Hc = .val tv Hc := load_word rfl g4 rfl
        have l6 : evLoad Tryz.y25 (.ptr m 0) Hc = .val rv Hc := load_word rfl i3 rfl
        have hwl := tabc.wl
        have hln := tabc.len
        obtain ⟨b', H5, ap, V', O5, m5, _, hb1, hb2, k5⟩ := tabc.vec.app Tryz.word22 Oc (by omega) (by omega) (x := rv) i4.one.1 (by omega) (by rw [fz26])
        have g5 : H5.t.get (h.next + 2) = some (.cells [tv] (fzNew 22)) := by rw [k5 _ (by omega) fun n => tabc.vec.ne (by omega) n]; exact g4
        have sw : evStore Tryz.y22 (.ptr (h.next + 2) 0) (.sliceU b' 0 (rvs.length + 1) 1) H5 = .skip (H5.set (h.next + 2) (.cells [.sliceU b' 0 (rvs.length + 1) 1] (fzNew 22))) := store_cells1 (c := [tv]) rfl rfl rfl g5 (by rw [fz23]; decide) (by simp)
        refine (show WRun Tryz.ctx S 21 Tryz.f21.ntmps (some (h.next + 7)) _ _ _ _ _ from ?_)
        refine WRun.region ?_
        iterate 2 (first | refine WOps.a rfl (by simp only [reduceIte, Nat.reduceEqDiff, Nat.reduceAdd, B2, t4, t6, l4, l6] <;> rfl) ?_ | refine WOps.vG ((guard_bool rfl rfl (by simp only [reduceIte, Nat.reduceEqDiff, Nat.reduceAdd, B2, t4, t6, l4, l6] <;> rfl)).trans rfl) (by simp only [reduceIte, Nat.reduceEqDiff, Nat.reduceAdd, B2, t4, t6, l4, l6] <;> rfl) rfl ?_ | refine WOps.nG (by first | exact (guard_bool rfl rfl (by simp only [reduceIte, Nat.reduceEqDiff, Nat.reduceAdd, B2, t4, t6, l4, l6] <;> rfl)).trans rfl | exact guard_not rfl rfl (by simp only [reduceIte, Nat.reduceEqDiff, Nat.reduceAdd, B2, t4, t6, l4, l6] <;> rfl)) rfl ?_)
        refine WOps.vN (op_buildSlice1 (v := rv) rfl (by simp only [reduceIte, Nat.reduceEqDiff, Nat.reduceAdd, B3, t6] <;> rfl) Tryz.ty22 Tryz.word22 rfl i4.one.2) rfl ?_
        refine WOps.vN ((op_append (u := tv) (v := .slice Hc.next 0 1 1) (a := Tryz.y22) (a2 := Tryz.y22) (by simp only [reduceIte, Nat.reduceEqDiff, Nat.reduceAdd, B3, t6] <;> rfl) (by simp only [reduceIte, Nat.reduceEqDiff, Nat.reduceAdd, B3, t6] <;> rfl) Tryz.ty22 Tryz.ty22 rfl).trans ap) rfl ?_
        refine WOps.eN (by simp only [reduceIte, Nat.reduceEqDiff, Nat.reduceAdd, B3, t4, op_storeE, sw] <;> rfl) ?_
        refine WOps.nil ?_
        have k5' : ∀ c, c < h.next + 8 → c ≠ h.next + 2 → (H5.set (h.next + 2) (.cells [.sliceU b' 0 (rvs.length + 1) 1] (fzNew 22))).t.get c = H2.t.get c := fun c hc hcm => by
          rw [get_set, if_neg hcm, k5 c (by omega) fun n => tabc.vec.ne (by omega) n, i2 c (by omega)]
        refine ⟨O5.set (by omega) (by omega) _, by rw [mark_set, m5, hmc, mb'], by rw [next_set]; omega, fun c hc => k5' c (by omega) (by omega), ⟨by rw [next_set]; omega, by rw [k5' _ (by omega) (by omega)]; exact st.q, by rw [k5' _ (by omega) (by omega)]; exact st.e, by rw [k5' _ (by omega) (by omega)]; exact st.d⟩, _, t ++ [row], rvs ++ [rv], by rw [get_set, if_pos rfl], ?_⟩
        exact tabc.snoc (H' := H5.set (h.next + 2) (.cells [.sliceU b' 0 (rvs.length + 1) 1] (fzNew 22))) Oc.lowN (V'.keep0 fun c hc => by rw [get_set, if_neg (by omega)]) (fun c n e => by injection e with e; omega)
          (fun c hc hcn hne => by rw [get_set, if_neg (by omega), k5 c hcn hne]) (m := m + 5) (by omega) (fun c n e => by have := htvm c n e; omega) i4 i6 (by omega) (by omega)
      · intro Hc Oc hmc hlc ⟨i1, i2, i3, i4⟩
        exact ⟨Oc, by rw [hmc, mb'], by omega, fun c hc => i2 c (by omega) (by omega) (by omega), ⟨by omega, i3, i4, by rw [i2 _ (by omega) (by omega) (by omega)]; exact st.d⟩⟩
    · intro w H5 hw O5 hm5 hlg ⟨S5, tv, t, rvs, g4, tab⟩
      have M5 : Mine h H5 := ⟨O5.ext, O5.low, O5.lowN, O5.next, by rw [hm5, M4.mark], by rw [hlg M4.mark, M4.log]⟩
      have l4 : evLoad Tryz.y22 (.ptr (h.next + 2) 0) H5 = .val tv H5 := load_word rfl g4 rfl
      have TT := tab.tab
      have hwl := tab.wl
      have hws := tab.ws
      have ht1 : t.length ≤ 10001 := by omega
      have ht2 : wt t ≤ 16000000 := by rw [wt_sum]; omega
      have ht3 : ∀ l ∈ t, ∀ x ∈ l, 0 ≤ x ∧ x ≤ 30 := fun l hl x hx => by
        obtain ⟨i, hi⟩ := List.getElem?_of_mem hl
        obtain ⟨_, _, _, _, _, _, h6⟩ := tab.row i l hi
        exact h6 x hx
      have ql := TT.len
      refine (show WRun Tryz.ctx S 21 Tryz.f21.ntmps none _ _ _ _ _ from ?_)
      (first | refine WRun.seq (WRun.region ?_) | refine WRun.seq (WRun.seq (WRun.region ?_)) | refine WRun.region ?_ | refine WRun.seq (WRun.seq (WRun.seq (WRun.region ?_)))); ((repeat (first | refine WOps.a rfl (by simp only [reduceIte, Nat.reduceEqDiff, Nat.reduceAdd, B2, t4, l4, ql] <;> rfl) ?_ | refine WOps.b rfl rfl rfl (by simp only [reduceIte, Nat.reduceEqDiff, Nat.reduceAdd, B2, t4, l4, ql] <;> rfl) ?_)); refine WOps.nil ?_)
      refine (show WRun Tryz.ctx S 21 Tryz.f21.ntmps none _ _ _ _ _ from ?_)
      refine WRun.block ?_
      refine WRun.loop (I := fun m T h' => ∃ x : Nat, m + x = t.length ∧ H5 = h' ∧ T.get 0 = some (.str s) ∧ T.get 2 = some (.ptr h.next 0) ∧ T.get 3 = some (.ptr (h.next + 1) 0) ∧ T.get 4 = some (.ptr (h.next + 2) 0) ∧ T.get 47 = some tv ∧ T.get 48 = some (.int .i64 t.length) ∧ T.get 49 = some (.int .i64 x)) (m := t.length) ?_
        ⟨0, by omega, rfl, (by simp only [reduceIte, Nat.reduceEqDiff, Nat.reduceAdd, B3, t0] <;> rfl), (by simp only [reduceIte, Nat.reduceEqDiff, Nat.reduceAdd, B3, t2] <;> rfl), (by simp only [reduceIte, Nat.reduceEqDiff, Nat.reduceAdd, B3, t3] <;> rfl), (by simp only [reduceIte, Nat.reduceEqDiff, Nat.reduceAdd, B3, t4] <;> rfl), (by simp only [reduceIte, Nat.reduceEqDiff, Nat.reduceAdd, B3, t0] <;> rfl), (by simp only [reduceIte, Nat.reduceEqDiff, Nat.reduceAdd, B3, t0] <;> rfl), (by simp only [reduceIte, Nat.reduceEqDiff, Nat.reduceAdd, B3, t0] <;> rfl)⟩
      clear t0 t2 t3 t4 t18 T
      rintro m T _ ⟨x, hm, rfl, t0, t2, t3, t4, t47, t48, t49⟩
      by_cases hx : x < t.length
      · have hlt : ((x : Int) < (t.length : Int)) = True := by simp; exact hx
        have ad := add1 x (by omega)
        obtain ⟨l, hl⟩ : ∃ l, t[x]? = some l := ⟨_, List.getElem?_eq_getElem hx⟩
        obtain ⟨b1, o1, a1, l1⟩ := TT.row x l hl H5 (Ext.refl _)
        have rl := TT.rlen x l hl
        (first | refine WRun.seq (WRun.region ?_) | refine WRun.seq (WRun.seq (WRun.region ?_)) | refine WRun.region ?_ | refine WRun.seq (WRun.seq (WRun.seq (WRun.region ?_)))); ((repeat (first | refine WOps.a rfl (by simp only [reduceIte, Nat.reduceEqDiff, Nat.reduceAdd, B3, t48, t49, hlt] <;> rfl) ?_ | refine WOps.b rfl rfl rfl (by simp only [reduceIte, Nat.reduceEqDiff, Nat.reduceAdd, B3, t48, t49, hlt] <;> rfl) ?_)); refine WOps.nil ?_)
        (first | refine WRun.condT (by simp only [reduceIte, Nat.reduceEqDiff, Nat.reduceAdd, B3, hlt] <;> rfl) ?_ | refine WRun.seq (WRun.condT (by simp only [reduceIte, Nat.reduceEqDiff, Nat.reduceAdd, B3, hlt] <;> rfl) ?_))
        refine WRun.skip ?_
        refine WRun.seq (WRun.block ?_)
        (first | refine WRun.seq (WRun.region ?_) | refine WRun.seq (WRun.seq (WRun.region ?_)) | refine WRun.region ?_ | refine WRun.seq (WRun.seq (WRun.seq (WRun.region ?_)))); ((repeat (first | refine WOps.a rfl (by simp only [reduceIte, Nat.reduceEqDiff, Nat.reduceAdd, B2, t47, t49, a1, l1] <;> rfl) ?_ | refine WOps.b rfl rfl rfl (by simp only [reduceIte, Nat.reduceEqDiff, Nat.reduceAdd, B2, t47, t49, a1, l1] <;> rfl) ?_)); refine WOps.nil ?_)
        cases d3 : decide ((l.length : Int) = (t.length : Int))
        · (first | refine WRun.seq (WRun.region ?_) | refine WRun.seq (WRun.seq (WRun.region ?_)) | refine WRun.region ?_ | refine WRun.seq (WRun.seq (WRun.seq (WRun.region ?_)))); ((repeat (first | refine WOps.a rfl (by simp only [reduceIte, Nat.reduceEqDiff, Nat.reduceAdd, B2, t4, l4, rl, ql, d3] <;> rfl) ?_ | refine WOps.b rfl rfl rfl (by simp only [reduceIte, Nat.reduceEqDiff, Nat.reduceAdd, B2, t4, l4, rl, ql, d3] <;> rfl) ?_)); refine WOps.nil ?_)
          (first | refine WRun.condT (by simp only [reduceIte, Nat.reduceEqDiff, Nat.reduceAdd, B3, d3] <;> rfl) ?_ | refine WRun.seq (WRun.condT (by simp only [reduceIte, Nat.reduceEqDiff, Nat.reduceAdd, B3, d3] <;> rfl) ?_))
          have sw1 : evStore Tryz.y24 (.ptr h.next 0) (.agg [.nils]) H5 = .skip (H5.set h.next (.cells [.nils] (fzNew 24))) := store_cells1 (c := [.nils]) rfl rfl rfl S5.q (by rw [fz25]; decide) (by decide)
          have sw2 : evStore Tryz.y29 (.ptr (h.next + 1) 0) (.int .i64 3) (H5.set h.next (.cells [.nils] (fzNew 24))) = .skip ((H5.set h.next (.cells [.nils] (fzNew 24))).set (h.next + 1) (.cells [.int .i64 3] (fzNew 29))) :=
            store_cells1 (c := [.int .i64 0]) rfl rfl rfl (by rw [get_set, if_neg (by omega)]; exact S5.e) (by rw [fz30]; decide) (by decide)
          (first | refine WRun.seq (WRun.region ?_) | refine WRun.seq (WRun.seq (WRun.region ?_)) | refine WRun.region ?_ | refine WRun.seq (WRun.seq (WRun.seq (WRun.region ?_)))); ((repeat (first | refine WOps.a rfl (by simp only [reduceIte, Nat.reduceEqDiff, Nat.reduceAdd, B3, t2, t3, op_storeE, sw1, sw2] <;> rfl) ?_ | refine WOps.b rfl rfl rfl (by simp only [reduceIte, Nat.reduceEqDiff, Nat.reduceAdd, B3, t2, t3, op_storeE, sw1, sw2] <;> rfl) ?_)); refine WOps.nil ?_)
          have n5 := S5.next
          refine WRun.ret ⟨trivial, .nils, 3, _, atEnd21 (z := fzNew 24) (z' := fzNew 29) trivial (by rw [get_set, if_neg (by omega), get_set, if_neg (by omega)]; exact S5.d) (by simp only [reduceIte, Nat.reduceEqDiff, Nat.reduceAdd, B3, t2] <;> rfl) (by simp only [reduceIte, Nat.reduceEqDiff, Nat.reduceAdd, B3, t3] <;> rfl) (by rw [get_del, if_neg (by omega), get_set, if_neg (by omega), get_set, if_pos rfl]) (by rw [get_del, if_neg (by omega), get_set, if_pos rfl]), ?_, [], fun _ => .nils, fun _ _ => TabT.nil _ _, by simp, by simp [wt], by simp, .inl ⟨rfl, rfl⟩⟩
          exact mine_del ((M5.set (Nat.le_refl _) (by omega) _).set (by omega) (by rw [next_set]; omega) _) (by omega)
        · (first | refine WRun.seq (WRun.region ?_) | refine WRun.seq (WRun.seq (WRun.region ?_)) | refine WRun.region ?_ | refine WRun.seq (WRun.seq (WRun.seq (WRun.region ?_)))); ((repeat (first | refine WOps.a rfl (by simp only [reduceIte, Nat.reduceEqDiff, Nat.reduceAdd, B2, t4, l4, rl, ql, d3] <;> rfl) ?_ | refine WOps.b rfl rfl rfl (by simp only [reduceIte, Nat.reduceEqDiff, Nat.reduceAdd, B2, t4, l4, rl, ql, d3] <;> rfl) ?_)); refine WOps.nil ?_)
          (first | refine WRun.condF (by simp only [reduceIte, Nat.reduceEqDiff, Nat.reduceAdd, B3, d3] <;> rfl) ?_ | refine WRun.seq (WRun.condF (by simp only [reduceIte, Nat.reduceEqDiff, Nat.reduceAdd, B3, d3] <;> rfl) ?_))
          refine WRun.skip ?_
          (first | refine WRun.seq (WRun.region ?_) | refine WRun.seq (WRun.seq (WRun.region ?_)) | refine WRun.region ?_ | refine WRun.seq (WRun.seq (WRun.seq (WRun.region ?_)))); ((repeat (first | refine WOps.a rfl (by simp only [reduceIte, Nat.reduceEqDiff, Nat.reduceAdd, B3, t49, ad] <;> rfl) ?_ | refine WOps.b rfl rfl rfl (by simp only [reduceIte, Nat.reduceEqDiff, Nat.reduceAdd, B3, t49, ad] <;> rfl) ?_)); refine WOps.nil ?_)
          exact ⟨rfl, m - 1, by omega, x + 1, by omega, rfl, (by simp only [reduceIte, Nat.reduceEqDiff, Nat.reduceAdd, B3, t0] <;> rfl), (by simp only [reduceIte, Nat.reduceEqDiff, Nat.reduceAdd, B3, t2] <;> rfl), (by simp only [reduceIte, Nat.reduceEqDiff, Nat.reduceAdd, B3, t3] <;> rfl), (by simp only [reduceIte, Nat.reduceEqDiff, Nat.reduceAdd, B3, t4] <;> rfl), (by simp only [reduceIte, Nat.reduceEqDiff, Nat.reduceAdd, B3, t47] <;> rfl), (by simp only [reduceIte, Nat.reduceEqDiff, Nat.reduceAdd, B3, t48] <;> rfl), (by simp only [reduceIte, Nat.reduceEqDiff, Nat.reduceAdd, B3, t49] <;> rfl)⟩
      · have hlt : ((x : Int) < (t.length : Int)) = False := by simp; omega
        (first | refine WRun.seq (WRun.region ?_) | refine WRun.seq (WRun.seq (WRun.region ?_)) | refine WRun.region ?_ | refine WRun.seq (WRun.seq (WRun.seq (WRun.region ?_)))); ((repeat (first | refine WOps.a rfl (by simp only [reduceIte, Nat.reduceEqDiff, Nat.reduceAdd, B3, t48, t49, hlt] <;> rfl) ?_ | refine WOps.b rfl rfl rfl (by simp only [reduceIte, Nat.reduceEqDiff, Nat.reduceAdd, B3, t48, t49, hlt] <;> rfl) ?_)); refine WOps.nil ?_)
        (first | refine WRun.condF (by simp only [reduceIte, Nat.reduceEqDiff, Nat.reduceAdd, B3, hlt] <;> rfl) ?_ | refine WRun.seq (WRun.condF (by simp only [reduceIte, Nat.reduceEqDiff, Nat.reduceAdd, B3, hlt] <;> rfl) ?_))
        refine WRun.exit ?_
        refine WRun.seq (WRun.seq (WRun.region ?_))
        iterate 1 (first | refine WOps.a rfl (by simp only [reduceIte, Nat.reduceEqDiff, Nat.reduceAdd, B2, t4, l4] <;> rfl) ?_ | refine WOps.vG ((guard_bool rfl rfl (by simp only [reduceIte, Nat.reduceEqDiff, Nat.reduceAdd, B2, t4, l4] <;> rfl)).trans rfl) (by simp only [reduceIte, Nat.reduceEqDiff, Nat.reduceAdd, B2, t4, l4] <;> rfl) rfl ?_ | refine WOps.nG (by first | exact (guard_bool rfl rfl (by simp only [reduceIte, Nat.reduceEqDiff, Nat.reduceAdd, B2, t4, l4] <;> rfl)).trans rfl | exact guard_not rfl rfl (by simp only [reduceIte, Nat.reduceEqDiff, Nat.reduceAdd, B2, t4, l4] <;> rfl)) rfl ?_)
        have c40 := Tryz.c40 (S := S) hS40 hS50 hS77 hS88 hS51 h16 O5.lowN TT (by omega) ht2 fun l hl x hx => by have := ht3 l hl x hx; omega
        refine WOps.cN (op_call1 (v := tv) (by simp only [reduceIte, Nat.reduceEqDiff, Nat.reduceAdd, B3, t4] <;> rfl) Tryz.fn40 Tryz.ex40) c40 rfl ?_
        cases d4 : decide (tabT t = s)
        · have sn : ∀ k : Bool, binV Tryz.ctx.ty .neq 9 k (.str (tabT t)) (.str s) = some (.bool true) := fun k => by rw [str_neq, d4]; rfl
          ((repeat (first | refine WOps.a rfl (by simp only [reduceIte, Nat.reduceEqDiff, Nat.reduceAdd, B3, t0, sn] <;> rfl) ?_ | refine WOps.b rfl rfl rfl (by simp only [reduceIte, Nat.reduceEqDiff, Nat.reduceAdd, B3, t0, sn] <;> rfl) ?_)); refine WOps.nil ?_)
          (first | refine WRun.condT (by simp only [reduceIte, Nat.reduceEqDiff, Nat.reduceAdd, B3, t0] <;> rfl) ?_ | refine WRun.seq (WRun.condT (by simp only [reduceIte, Nat.reduceEqDiff, Nat.reduceAdd, B3, t0] <;> rfl) ?_))
          have sw1 : evStore Tryz.y24 (.ptr h.next 0) (.agg [.nils]) H5 = .skip (H5.set h.next (.cells [.nils] (fzNew 24))) := store_cells1 (c := [.nils]) rfl rfl rfl S5.q (by rw [fz25]; decide) (by decide)
          have sw2 : evStore Tryz.y29 (.ptr (h.next + 1) 0) (.int .i64 3) (H5.set h.next (.cells [.nils] (fzNew 24))) = .skip ((H5.set h.next (.cells [.nils] (fzNew 24))).set (h.next + 1) (.cells [.int .i64 3] (fzNew 29))) :=
            store_cells1 (c := [.int .i64 0]) rfl rfl rfl (by rw [get_set, if_neg (by omega)]; exact S5.e) (by rw [fz30]; decide) (by decide)
          (first | refine WRun.seq (WRun.region ?_) | refine WRun.seq (WRun.seq (WRun.region ?_)) | refine WRun.region ?_ | refine WRun.seq (WRun.seq (WRun.seq (WRun.region ?_)))); ((repeat (first | refine WOps.a rfl (by simp only [reduceIte, Nat.reduceEqDiff, Nat.reduceAdd, B3, t2, t3, op_storeE, sw1, sw2] <;> rfl) ?_ | refine WOps.b rfl rfl rfl (by simp only [reduceIte, Nat.reduceEqDiff, Nat.reduceAdd, B3, t2, t3, op_storeE, sw1, sw2] <;> rfl) ?_)); refine WOps.nil ?_)
          have n5 := S5.next
          refine WRun.ret ⟨trivial, .nils, 3, _, atEnd21 (z := fzNew 24) (z' := fzNew 29) trivial (by rw [get_set, if_neg (by omega), get_set, if_neg (by omega)]; exact S5.d) (by simp only [reduceIte, Nat.reduceEqDiff, Nat.reduceAdd, B3, t2] <;> rfl) (by simp only [reduceIte, Nat.reduceEqDiff, Nat.reduceAdd, B3, t3] <;> rfl) (by rw [get_del, if_neg (by omega), get_set, if_neg (by omega), get_set, if_pos rfl]) (by rw [get_del, if_neg (by omega), get_set, if_pos rfl]), ?_, [], fun _ => .nils, fun _ _ => TabT.nil _ _, by simp, by simp [wt], by simp, .inl ⟨rfl, rfl⟩⟩
          exact mine_del ((M5.set (Nat.le_refl _) (by omega) _).set (by omega) (by rw [next_set]; omega) _) (by omega)
        have sn : ∀ k : Bool, binV Tryz.ctx.ty .neq 9 k (.str (tabT t)) (.str s) = some (.bool false) := fun k => by rw [str_neq, d4]; rfl
        ((repeat (first | refine WOps.a rfl (by simp only [reduceIte, Nat.reduceEqDiff, Nat.reduceAdd, B3, t0, sn] <;> rfl) ?_ | refine WOps.b rfl rfl rfl (by simp only [reduceIte, Nat.reduceEqDiff, Nat.reduceAdd, B3, t0, sn] <;> rfl) ?_)); refine WOps.nil ?_)
        (first | refine WRun.condF (by simp only [reduceIte, Nat.reduceEqDiff, Nat.reduceAdd, B3, t0] <;> rfl) ?_ | refine WRun.seq (WRun.condF (by simp only [reduceIte, Nat.reduceEqDiff, Nat.reduceAdd, B3, t0] <;> rfl) ?_))
        refine WRun.skip ?_
        have bd := tab.vec.bd
        have hn6 : (H5.add (.cells [.nils] (fzNew 24))).t.get H5.next = some (.cells [.nils] (fzNew 24)) := get_add_self
        have sw6 : evStore Tryz.y24 (.ptr H5.next 0) (.agg [tv]) (H5.add (.cells [.nils] (fzNew 24))) = .skip ((H5.add (.cells [.nils] (fzNew 24))).set H5.next (.cells [tv] (fzNew 24))) := store_cells1 (c := [.nils]) rfl rfl tab.vec.one.1 hn6 (by rw [fz25]; decide) (by decide)
        (first | refine WRun.seq (WRun.region ?_) | refine WRun.seq (WRun.seq (WRun.region ?_)) | refine WRun.region ?_ | refine WRun.seq (WRun.seq (WRun.seq (WRun.region ?_)))); ((repeat (first | refine WOps.a rfl (by simp only [reduceIte, Nat.reduceEqDiff, Nat.reduceAdd, B2, t4, l4, bd, z24, op_storeE, sw6] <;> rfl) ?_ | refine WOps.b rfl rfl rfl (by simp only [reduceIte, Nat.reduceEqDiff, Nat.reduceAdd, B2, t4, l4, bd, z24, op_storeE, sw6] <;> rfl) ?_)); refine WOps.nil ?_)
        have n5 := S5.next
        have M6 : Mine h ((H5.add (.cells [.nils] (fzNew 24))).set H5.next (.cells [tv] (fzNew 24))) := (M5.add _).set (by omega) (by rw [next_add]; omega) _
        have k6 : ∀ c, c < H5.next → ((H5.add (.cells [.nils] (fzNew 24))).set H5.next (.cells [tv] (fzNew 24))).t.get c = H5.t.get c := fun c hc => by rw [get_set, if_neg (by omega), get_add, if_neg (by omega)]
        have l6 : evLoad Tryz.y24 (.ptr H5.next 0) ((H5.add (.cells [.nils] (fzNew 24))).set H5.next (.cells [tv] (fzNew 24))) = .val (.agg [tv]) ((H5.add (.cells [.nils] (fzNew 24))).set H5.next (.cells [tv] (fzNew 24))) := load24 (z := fzNew 24) (by rw [get_set, if_pos rfl])
        have S6 : St21 h.next 0 ((H5.add (.cells [.nils] (fzNew 24))).set H5.next (.cells [tv] (fzNew 24))) := S5.keep (by show H5.next ≤ H5.next + 1; omega) fun c hc _ _ => k6 c (by omega)
        have tab6 := tab.keep (H' := (H5.add (.cells [.nils] (fzNew 24))).set H5.next (.cells [tv] (fzNew 24))) (fun c _ hc => k6 c hc) O5.lowN
        have nx6 : ((H5.add (.cells [.nils] (fzNew 24))).set H5.next (.cells [tv] (fzNew 24))).next = H5.next + 1 := rfl
        refine WRun.withT (P := fun T => T.get 0 = some (.str s) ∧ T.get 2 = some (.ptr h.next 0) ∧ T.get 3 = some (.ptr (h.next + 1) 0) ∧ T.get 12 = some (.ptr H5.next 0)) ⟨(by simp only [reduceIte, Nat.reduceEqDiff, Nat.reduceAdd, B3, t0] <;> rfl), (by simp only [reduceIte, Nat.reduceEqDiff, Nat.reduceAdd, B3, t2] <;> rfl), (by simp only [reduceIte, Nat.reduceEqDiff, Nat.reduceAdd, B3, t3] <;> rfl), (by simp only [reduceIte, Nat.reduceEqDiff, Nat.reduceAdd, B3, t0] <;> rfl)⟩ ?_
        generalize ((H5.add (.cells [.nils] (fzNew 24))).set H5.next (.cells [tv] (fzNew 24))) = H6 at M6 k6 l6 S6 tab6 nx6
        clear t0 t2 t3 t4 t47 t48 t49 T
        rintro T ⟨t0, t2, t3, t12⟩
        refine WRun.seq (WRun.seq (WRun.region ?_))
        iterate 1 (first | refine WOps.a rfl (by simp only [reduceIte, Nat.reduceEqDiff, Nat.reduceAdd, B2, t12, l6] <;> rfl) ?_ | refine WOps.vG ((guard_bool rfl rfl (by simp only [reduceIte, Nat.reduceEqDiff, Nat.reduceAdd, B2, t12, l6] <;> rfl)).trans rfl) (by simp only [reduceIte, Nat.reduceEqDiff, Nat.reduceAdd, B2, t12, l6] <;> rfl) rfl ?_ | refine WOps.nG (by first | exact (guard_bool rfl rfl (by simp only [reduceIte, Nat.reduceEqDiff, Nat.reduceAdd, B2, t12, l6] <;> rfl)).trans rfl | exact guard_not rfl rfl (by simp only [reduceIte, Nat.reduceEqDiff, Nat.reduceAdd, B2, t12, l6] <;> rfl)) rfl ?_)
        have main : ∀ bb, (bb = true ↔ VT t) → RunCall Tryz.ctx S 19 [.agg [tv]] H6 ⟨.bool bb, H6⟩ := fun bb hbb => Tryz.c19 hS19 hS41 hS42 hS43 M6.lowN tab6.tab (by omega) hbb
        by_cases v : VT t
        · refine WOps.cN (op_call1 (v := .agg [tv]) (by simp only [reduceIte, Nat.reduceEqDiff, Nat.reduceAdd, B3, t12] <;> rfl) Tryz.fn19 Tryz.ex19) (main true (by simp [v])) rfl ?_
          ((repeat (first | refine WOps.a rfl (by simp only [reduceIte, Nat.reduceEqDiff, Nat.reduceAdd, B3, t12] <;> rfl) ?_ | refine WOps.b rfl rfl rfl (by simp only [reduceIte, Nat.reduceEqDiff, Nat.reduceAdd, B3, t12] <;> rfl) ?_)); refine WOps.nil ?_)
          (first | refine WRun.condF (by simp only [reduceIte, Nat.reduceEqDiff, Nat.reduceAdd, B3, t12] <;> rfl) ?_ | refine WRun.seq (WRun.condF (by simp only [reduceIte, Nat.reduceEqDiff, Nat.reduceAdd, B3, t12] <;> rfl) ?_))
          refine WRun.skip ?_
          have sw1 : evStore Tryz.y24 (.ptr h.next 0) (.agg [tv]) H6 = .skip (H6.set h.next (.cells [tv] (fzNew 24))) := store_cells1 (c := [.nils]) rfl rfl tab.vec.one.1 S6.q (by rw [fz25]; decide) (by decide)
          have sw2 : evStore Tryz.y29 (.ptr (h.next + 1) 0) (.int .i64 0) (H6.set h.next (.cells [tv] (fzNew 24))) = .skip ((H6.set h.next (.cells [tv] (fzNew 24))).set (h.next + 1) (.cells [.int .i64 0] (fzNew 29))) :=
            store_cells1 (c := [.int .i64 0]) rfl rfl rfl (by rw [get_set, if_neg (by omega)]; exact S6.e) (by rw [fz30]; decide) (by decide)
          (first | refine WRun.seq (WRun.region ?_) | refine WRun.seq (WRun.seq (WRun.region ?_)) | refine WRun.region ?_ | refine WRun.seq (WRun.seq (WRun.seq (WRun.region ?_)))); ((repeat (first | refine WOps.a rfl (by simp only [reduceIte, Nat.reduceEqDiff, Nat.reduceAdd, B2, t12, t2, t3, l6, op_storeE, sw1, sw2] <;> rfl) ?_ | refine WOps.b rfl rfl rfl (by simp only [reduceIte, Nat.reduceEqDiff, Nat.reduceAdd, B2, t12, t2, t3, l6, op_storeE, sw1, sw2] <;> rfl) ?_)); refine WOps.nil ?_)
          have n6 := S6.next
          refine WRun.ret ⟨trivial, tv, 0, _, atEnd21 (z := fzNew 24) (z' := fzNew 29) trivial (by rw [get_set, if_neg (by omega), get_set, if_neg (by omega)]; exact S6.d) (by simp only [reduceIte, Nat.reduceEqDiff, Nat.reduceAdd, B3, t2] <;> rfl) (by simp only [reduceIte, Nat.reduceEqDiff, Nat.reduceAdd, B3, t3] <;> rfl) (by rw [get_del, if_neg (by omega), get_set, if_neg (by omega), get_set, if_pos rfl]) (by rw [get_del, if_neg (by omega), get_set, if_pos rfl]), mine_del ((M6.set (Nat.le_refl _) (by omega) _).set (by omega) (by rw [next_set]; omega) _) (by omega), t, _, fun H' hk => (tab6.keep0 fun c hc => ?_).tab, ht1, ht2, ht3, tab.kind (by omega)⟩
          rw [hk c (by omega), get_del, if_neg (by omega), get_set, if_neg (by omega), get_set, if_neg (by omega)]
        · refine WOps.cN (op_call1 (v := .agg [tv]) (by simp only [reduceIte, Nat.reduceEqDiff, Nat.reduceAdd, B3, t12] <;> rfl) Tryz.fn19 Tryz.ex19) (main false (by simp [v])) rfl ?_
          ((repeat (first | refine WOps.a rfl (by simp only [reduceIte, Nat.reduceEqDiff, Nat.reduceAdd, B3, t12] <;> rfl) ?_ | refine WOps.b rfl rfl rfl (by simp only [reduceIte, Nat.reduceEqDiff, Nat.reduceAdd, B3, t12] <;> rfl) ?_)); refine WOps.nil ?_)
          (first | refine WRun.condT (by simp only [reduceIte, Nat.reduceEqDiff, Nat.reduceAdd, B3, t12] <;> rfl) ?_ | refine WRun.seq (WRun.condT (by simp only [reduceIte, Nat.reduceEqDiff, Nat.reduceAdd, B3, t12] <;> rfl) ?_))
          have sw1 : evStore Tryz.y24 (.ptr h.next 0) (.agg [.nils]) H6 = .skip (H6.set h.next (.cells [.nils] (fzNew 24))) := store_cells1 (c := [.nils]) rfl rfl rfl S6.q (by rw [fz25]; decide) (by decide)
          have sw2 : evStore Tryz.y29 (.ptr (h.next + 1) 0) (.int .i64 1) (H6.set h.next (.cells [.nils] (fzNew 24))) = .skip ((H6.set h.next (.cells [.nils] (fzNew 24))).set (h.next + 1) (.cells [.int .i64 1] (fzNew 29))) :=
            store_cells1 (c := [.int .i64 0]) rfl rfl rfl (by rw [get_set, if_neg (by omega)]; exact S6.e) (by rw [fz30]; decide) (by decide)
          (first | refine WRun.seq (WRun.region ?_) | refine WRun.seq (WRun.seq (WRun.region ?_)) | refine WRun.region ?_ | refine WRun.seq (WRun.seq (WRun.seq (WRun.region ?_)))); ((repeat (first | refine WOps.a rfl (by simp only [reduceIte, Nat.reduceEqDiff, Nat.reduceAdd, B3, t2, t3, op_storeE, sw1, sw2] <;> rfl) ?_ | refine WOps.b rfl rfl rfl (by simp only [reduceIte, Nat.reduceEqDiff, Nat.reduceAdd, B3, t2, t3, op_storeE, sw1, sw2] <;> rfl) ?_)); refine WOps.nil ?_)
          have n6 := S6.next
          refine WRun.ret ⟨trivial, .nils, 1, _, atEnd21 (z := fzNew 24) (z' := fzNew 29) trivial (by rw [get_set, if_neg (by omega), get_set, if_neg (by omega)]; exact S6.d) (by simp only [reduceIte, Nat.reduceEqDiff, Nat.reduceAdd, B3, t2] <;> rfl) (by simp only [reduceIte, Nat.reduceEqDiff, Nat.reduceAdd, B3, t3] <;> rfl) (by rw [get_del, if_neg (by omega), get_set, if_neg (by omega), get_set, if_pos rfl]) (by rw [get_del, if_neg (by omega), get_set, if_pos rfl]), ?_, [], fun _ => .nils, fun _ _ => TabT.nil _ _, by simp, by simp [wt], by simp, .inl ⟨rfl, rfl⟩⟩
          exact mine_del ((M6.set (Nat.le_refl _) (by omega) _).set (by omega) (by rw [next_set]; omega) _) (by omega)
    · intro H5 O5 hm5 hlg S5
      have M5 : Mine h H5 := ⟨O5.ext, O5.low, O5.lowN, O5.next, by rw [hm5, M4.mark], by rw [hlg M4.mark, M4.log]⟩
      have n5 := S5.next
      exact ⟨trivial, .nils, 3, _, atEnd21 (z := fzNew 24) (z' := fzNew 29) trivial S5.d t2 t3 (by rw [get_del, if_neg (by omega)]; exact S5.q) (by rw [get_del, if_neg (by omega)]; exact S5.e), mine_del M5 (by omega), [], fun _ => .nils, fun _ _ => TabT.nil _ _, by simp, by simp [wt], by simp, .inl ⟨rfl, rfl⟩⟩
  obtain ⟨e, T, df, h', h1, h2, tv, x, H, h3, h4, t, R, h5, h6, h7, h8, h9⟩ := key
  have hH : H = ⟨H.t, H.next, H.mark, []⟩ := by rw [← h4.log]
  rw [hH] at h3
  rcases h9 with ⟨rfl, rfl⟩ | ⟨b, n, rfl, hb⟩
  · exact ⟨.nils, x, h, WRun.calls hS Tryz.fn21 rfl rfl rfl ⟨e, T, df, h', h1, H.t, H.next, H.mark, h3⟩, Ext.refl _, low, Nat.le_refl _, rfl, rfl, [], R, fun _ _ => TabT.nil _ _, .inl ⟨rfl, rfl⟩, by simp, by simp [wt], by simp⟩
  · have hbf : Nat.blt b h.next = false := by
      cases q : Nat.blt b h.next with
      | true => have := blt_iff.1 q; omega
      | false => rfl
    exact ⟨_, x, ⟨H.t, H.next, h.mark, h.log⟩, WRun.callsN hS Tryz.fn21 rfl rfl (by simp [AV.all, allL, hbf]) ⟨e, T, df, h', h1, h3⟩, h4.ext, h4.lowN, h4.next, rfl, rfl, t, R, h5, .inr ⟨b, n, rfl, hb⟩, h6, h7, h8⟩
end Go.Proofs
