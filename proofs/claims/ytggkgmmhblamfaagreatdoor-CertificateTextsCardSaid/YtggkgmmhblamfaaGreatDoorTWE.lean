/- Part of the proof. -/
import Derived.Test.YtggkgmmhblamfaaGreatDoorTWD
set_option linter.all false
namespace Go.Proofs
open Go.Ev
set_option maxRecDepth 100000
theorem op_build0 {C : Ctx} {T : PT AV} {h : AH} {t : TypeId} : evOp (.build t #[]) C T h = withT C.ty t fun a => evBuild C.ty a [] h := rfl
theorem op_build1 {C : Ctx} {T : PT AV} {h : AH} {t : TypeId} {i : Nat} {x : Operand} : evOp (.build t #[(i, x)]) C T h = withT C.ty t fun a => with1 (evOpd C.G T x) fun v => evBuild C.ty a [(i, v)] h := by
  show withT C.ty t (fun a => withL (oe none (evOpd C.G T x) fun v => oe none (some []) fun vs => some ((i, v) :: vs)) fun ps => evBuild C.ty a ps h) = _
  cases evOpd C.G T x <;> rfl
theorem Tryz.bd24 (h : AH) : evBuild Tryz.ctx.ty Tryz.y24 [] h = .val (.agg [.nils]) h := by rfl
theorem Tryz.bd27 (h : AH) : evBuild Tryz.ctx.ty Tryz.y27 [] h = .val (.agg [.int .i64 0, .int .i64 0, .nils, .nils]) h := by rfl
theorem fz4 : fzNew 3 = 4 := by decide +kernel
theorem fz26 : fzNew 25 = 26 := by decide +kernel
theorem fz23 : fzNew 22 = 23 := by decide +kernel
theorem fz25 : fzNew 24 = 25 := by decide +kernel
theorem fz30 : fzNew 29 = 30 := by decide +kernel
theorem Tryz.word25 : Word Tryz.y25 Tryz.y3 Tryz.ctx.ty 3 := ⟨rfl, Tryz.ty3, rfl, by decide +kernel, by decide +kernel, rfl⟩
theorem Tryz.word22 : Word Tryz.y22 Tryz.y25 Tryz.ctx.ty 25 := ⟨rfl, Tryz.ty25, rfl, by decide +kernel, by decide +kernel, rfl⟩
def intsAV (l : List Int) : List AV := l.map (AV.int .i64)
theorem cAtoi {S : Summ} (h23 : S.get 23 = some sAtoi) {s : List UInt8} (hs : s.length ≤ 1000000) (h : AH) :
    (∃ v, RunCall Tryz.ctx S 23 [.str s] h ⟨.tup [.int .i64 v, .nili], h⟩) ∨ ∃ v, RunCall Tryz.ctx S 23 [.str s] h ⟨.tup [.int .i64 v, .iface 140 (.ptr h.next 0)], ⟨h.t, h.next + 1, h.mark, h.log⟩⟩ := by
  rcases q : Lib.atoiAll s with v | _ | _
  · exact .inl ⟨v, RunCall.summ h23 (by unfold sAtoi; simp only [hs, if_true, q])⟩
  · exact .inr ⟨0, RunCall.summ h23 (by unfold sAtoi; simp only [hs, if_true, q])⟩
  · exact .inr ⟨_, RunCall.summ h23 (by unfold sAtoi; simp only [hs, if_true, q]; rfl)⟩
/-- The table as it is read. -/
structure TabI (lo w : Nat) (H : AH) (tv : AV) (t : List (List Int)) (rvs : List AV) : Prop where
  vec : VecI lo H tv rvs
  len : rvs.length = t.length
  row : ∀ (i : Nat) (l : List Int), t[i]? = some l → ∃ rv, rvs[i]? = some rv ∧ VecI lo H rv (intsAV l) ∧ rv.one = true ∧ rv.cells = [rv] ∧ (∀ c n k, rv = .sliceU c 0 n 1 → tv ≠ .sliceU c 0 k 1) ∧ ∀ x ∈ l, 0 ≤ x ∧ x ≤ 30
  wl : t.length ≤ w
  ws : (t.map List.length).sum ≤ w
theorem TabI.keep {lo w : Nat} {H H' : AH} {tv : AV} {t : List (List Int)} {rvs : List AV} (q : TabI lo w H tv t rvs) (hk : ∀ c, lo ≤ c → c < H.next → H'.t.get c = H.t.get c) (hl : ∀ b x, H.t.get b = some x → b < H.next) : TabI lo w H' tv t rvs := by
  have key : ∀ v l, VecI lo H v l → VecI lo H' v l := fun v l r => by
    rcases r with r | ⟨b, fz, h1, h2, h3, h4, h5⟩
    · exact .inl r
    · exact .inr ⟨b, fz, h1, h2, by rw [hk b h2 (hl _ _ h3)]; exact h3, h4, h5⟩
  exact ⟨key _ _ q.vec, q.len, fun i l hl => by
    obtain ⟨rv, h1, h2, h3⟩ := q.row i l hl
    exact ⟨rv, h1, key _ _ h2, h3⟩, q.wl, q.ws⟩
theorem VecI.len {lo : Nat} {H : AH} {v : AV} {l : List AV} (r : VecI lo H v l) {ty : PT ATy} {a : ATy} {e : Nat} (ha : a.d = .slice e) (h' : AH) : evLen ty a v h' = some (.int .i64 l.length) := by
  unfold evLen
  rw [ha]
  rcases r with ⟨rfl, rfl⟩ | ⟨b, fz, rfl, _⟩ <;> rfl
theorem TabI.tab {lo w : Nat} {H : AH} {tv : AV} {t : List (List Int)} {rvs : List AV} (q : TabI lo w H tv t rvs) : TabT H tv t fun i => rvs[i]?.getD .nils := by
  have hrow := q.vec.row
  refine ⟨fun h' => ?_, fun i l hl h' => ?_, fun i l hl h' e => ?_, fun i l j x hl hx h' e => ?_⟩
  · rw [← q.len]; exact q.vec.len rfl h'
  · obtain ⟨rv, h1, h2, _⟩ := q.row i l hl
    rw [h1]
    have := h2.len (ty := Tryz.ctx.ty) (a := Tryz.y25) rfl h'
    rw [show (intsAV l).length = l.length from List.length_map ..] at this
    exact this
  · obtain ⟨rv, h1, h2, _⟩ := q.row i l hl
    rw [h1]
    exact (hrow.mono e).elem rfl Tryz.ty25 rfl rfl h1
  · obtain ⟨rv, h1, h2, _⟩ := q.row i l hl
    rw [h1]
    exact (h2.row.mono e).elem rfl Tryz.ty3 rfl rfl (by unfold intsAV; rw [List.getElem?_map, hx]; rfl)
theorem TabI.keep0 {lo w : Nat} {H H' : AH} {tv : AV} {t : List (List Int)} {rvs : List AV} (q : TabI lo w H tv t rvs) (hk : ∀ c, lo ≤ c → H'.t.get c = H.t.get c) : TabI lo w H' tv t rvs := by
  have key : ∀ v l, VecI lo H v l → VecI lo H' v l := fun v l r => by
    rcases r with r | ⟨b, fz, h1, h2, h3, h4, h5⟩
    · exact .inl r
    · exact .inr ⟨b, fz, h1, h2, by rw [hk b h2]; exact h3, h4, h5⟩
  exact ⟨key _ _ q.vec, q.len, fun i l hl => by
    obtain ⟨rv, h1, h2, h3⟩ := q.row i l hl
    exact ⟨rv, h1, key _ _ h2, h3⟩, q.wl, q.ws⟩
theorem VecI.one {lo : Nat} {H : AH} {v : AV} {l : List AV} (r : VecI lo H v l) : v.one = true ∧ v.cells = [v] := by
  rcases r with ⟨rfl, _⟩ | ⟨b, fz, rfl, _⟩ <;> exact ⟨rfl, rfl⟩
theorem WRun.withT {C : Ctx} {S : Summ} {fn : FuncId} {n : Nat} {rd : Option Nat} {T : PT AV} {df : List Nat} {h : AH} {c : Code} {Q : Post} {P : PT AV → Prop} (hP : P T) (H : ∀ T', P T' → WRun C S fn n rd c T' df h Q) : WRun C S fn n rd c T df h Q := H T hP
theorem neq_nili (n : Nat) : binV Tryz.ctx.ty .neq 55 (isConst (.tmp n) || isConst (.const .nilIface)) .nili .nili = some (.bool false) := by
  show evNil Tryz.ctx.ty .neq 55 .nili .nili = _
  unfold evNil
  rw [Tryz.ty55]
  rfl
theorem neq_iface (n : Nat) (a : TypeId) (v : AV) : binV Tryz.ctx.ty .neq 55 (isConst (.tmp n) || isConst (.const .nilIface)) (.iface a v) .nili = some (.bool true) := by
  show evNil Tryz.ctx.ty .neq 55 (.iface a v) .nili = _
  unfold evNil
  rw [Tryz.ty55]
  rfl
/-- strconv.Atoi, its error as a yes or no. -/
theorem cAtoi' {S : Summ} (h23 : S.get 23 = some sAtoi) {s : List UInt8} (hs : s.length ≤ 1000000) (h : AH) :
    ∃ v iv nx bad, RunCall Tryz.ctx S 23 [.str s] h ⟨.tup [.int .i64 v, iv], ⟨h.t, nx, h.mark, h.log⟩⟩ ∧ h.next ≤ nx ∧ ∀ n, binV Tryz.ctx.ty .neq 55 (isConst (.tmp n) || isConst (.const .nilIface)) iv .nili = some (.bool bad) := by
  rcases cAtoi h23 hs h with ⟨v, q⟩ | ⟨v, q⟩
  · exact ⟨v, .nili, h.next, false, q, Nat.le_refl _, neq_nili⟩
  · exact ⟨v, _, h.next + 1, true, q, Nat.le_succ _, fun n => neq_iface n _ _⟩
theorem Own.bump {h h' : AH} (o : Own h h') {nx : Nat} (hn : h'.next ≤ nx) : Own h ⟨h'.t, nx, h'.mark, h'.log⟩ :=
  ⟨o.ext, o.low, fun b x e => Nat.lt_of_lt_of_le (o.lowN b x e) hn, Nat.le_trans o.next hn, o.mark, o.log⟩
theorem VecI.keep0 {lo : Nat} {H H' : AH} {v : AV} {l : List AV} (r : VecI lo H v l) (hk : ∀ c, lo ≤ c → H'.t.get c = H.t.get c) : VecI lo H' v l := by
  rcases r with r | ⟨b, fz, h1, h2, h3, h4, h5⟩
  · exact .inl r
  · exact .inr ⟨b, fz, h1, h2, by rw [hk b h2]; exact h3, h4, h5⟩
theorem VecI.ne {lo : Nat} {H : AH} {v : AV} {l : List AV} (r : VecI lo H v l) {c : Nat} (hc : c < lo) (n : Nat) : v ≠ .sliceU c 0 n 1 := by
  rcases r with ⟨rfl, _⟩ | ⟨b, fz, rfl, h2, _⟩
  · intro e; cases e
  · intro e; injection e with e; omega
theorem VecI.keep' {lo : Nat} {H H' : AH} {v : AV} {l : List AV} (r : VecI lo H v l) (hk : ∀ b x n, v = .sliceU b 0 n 1 → lo ≤ b → H.t.get b = some x → H'.t.get b = H.t.get b) : VecI lo H' v l := by
  rcases r with r | ⟨b, fz, h1, h2, h3, h4, h5⟩
  · exact .inl r
  · exact .inr ⟨b, fz, h1, h2, by rw [hk b _ _ h1 h2 h3]; exact h3, h4, h5⟩
theorem VecI.get {lo : Nat} {H : AH} {v : AV} {l : List AV} (r : VecI lo H v l) {c n : Nat} (h : v = .sliceU c 0 n 1) : lo ≤ c ∧ ∃ x, H.t.get c = some x := by
  subst h
  rcases r with ⟨e, _⟩ | ⟨b, fz, e, h2, h3, _⟩
  · cases e
  · injection e with e; subst e; exact ⟨h2, _, h3⟩
/-- A row more. -/
theorem TabI.snoc {lo w w' m : Nat} {H H' : AH} {tv tv' rv : AV} {t : List (List Int)} {rvs : List AV} {row : List Int} (q : TabI lo w H tv t rvs) (hlow : ∀ b x, H.t.get b = some x → b < H.next) (hv : VecI lo H' tv' (rvs ++ [rv])) (hnew : ∀ c n, tv' = .sliceU c 0 n 1 → H.next ≤ c)
    (hk : ∀ c, lo ≤ c → c < H.next → (∀ n, tv ≠ .sliceU c 0 n 1) → H'.t.get c = H.t.get c) (hm : lo ≤ m) (htv : ∀ c n, tv = .sliceU c 0 n 1 → c < m) (hr : VecI m H rv (intsAV row)) (hx : ∀ x ∈ row, 0 ≤ x ∧ x ≤ 30) (hw : w + row.length ≤ w') (hw1 : w + 1 ≤ w') :
    TabI lo w' H' tv' (t ++ [row]) (rvs ++ [rv]) := by
  refine ⟨hv, by rw [List.length_append, List.length_append, q.len]; rfl, fun i l hl => ?_, ?_, ?_⟩
  · by_cases hi : i < t.length
    · rw [List.getElem?_append_left hi] at hl
      obtain ⟨rv2, h1, h2, h3, h4, h5, h6⟩ := q.row i l hl
      refine ⟨rv2, by rw [List.getElem?_append_left (by rw [q.len]; exact hi)]; exact h1, h2.keep' fun b x n e hb hx => hk b hb (hlow b x hx) fun k => h5 b n k e, h3, h4, fun c n k e e' => ?_, h6⟩
      obtain ⟨_, x, hx⟩ := h2.get e
      have := hlow _ _ hx
      have := hnew c k e'
      omega
    · have hi2 : i = t.length := by
        have := (List.getElem?_eq_some_iff.1 hl).1
        rw [List.length_append] at this
        simp at this
        omega
      subst hi2
      rw [List.getElem?_append_right (Nat.le_refl _), Nat.sub_self] at hl
      simp only [List.getElem?_cons_zero, Option.some.injEq] at hl
      subst hl
      refine ⟨rv, by rw [← q.len, List.getElem?_append_right (Nat.le_refl _), Nat.sub_self]; rfl, (hr.keep' fun b x n e hb hx => hk b (by omega) (hlow b x hx) fun k e' => ?_).mono hm, hr.one.1, hr.one.2, fun c n k e e' => ?_, hx⟩
      · have := htv b k e'; omega
      · obtain ⟨_, x, hx⟩ := hr.get e
        have := hlow _ _ hx
        have := hnew c k e'
        omega
  · rw [List.length_append]; have := q.wl; simp; omega
  · rw [List.map_append, List.sum_append]; have := q.ws; simp; omega
theorem TabT.nil (H : AH) (R : Nat → AV) : TabT H .nils [] R := ⟨fun _ => rfl, fun i l hl => by simp at hl, fun i l hl => by simp at hl, fun i l j x hl => by simp at hl⟩
theorem str_neq {ty : PT ATy} {t : TypeId} {k : Bool} {a b : List UInt8} : binV ty .neq t k (.str a) (.str b) = some (.bool (!decide (a = b))) := by
  have : evBin ty .neq t (.str a) (.str b) = some (.bool (!decide (a = b))) := by
    show mkB (Bool.not (eqS a b)) = _
    rw [mkB_eq, eqS_eq, show (a == b) = decide (a = b) by rw [Bool.eq_iff_iff]; simp]
  show (match evBin ty .neq t (.str a) (.str b) with | some v => some v | none => samePtr ty .neq t (.str a) (.str b)) = _
  rw [this]
theorem str_eql {ty : PT ATy} {t : TypeId} {k : Bool} {a b : List UInt8} : binV ty .eql t k (.str a) (.str b) = some (.bool (decide (a = b))) := by
  have : evBin ty .eql t (.str a) (.str b) = some (.bool (decide (a = b))) := by
    show mkB (eqS a b) = _
    rw [mkB_eq, eqS_eq, show (a == b) = decide (a = b) by rw [Bool.eq_iff_iff]; simp]
  show (match evBin ty .eql t (.str a) (.str b) with | some v => some v | none => samePtr ty .eql t (.str a) (.str b)) = _
  rw [this]
theorem str_add {ty : PT ATy} {t : TypeId} {k : Bool} {a b : List UInt8} (h : a.length + b.length < 4294967296) : binV ty .add t k (.str a) (.str b) = some (.str (a ++ b)) := by
  have : evBin ty .add t (.str a) (.str b) = some (.str (a ++ b)) := by
    show cnd (Nat.blt (Nat.add (len a) (len b)) 4294967296) (forceL (a ++ b) fun l => some (AV.str l)) none = _
    rw [len_eq, len_eq]
    show cnd (Nat.blt (a.length + b.length) 4294967296) _ _ = _
    rw [blt_iff.2 h, forceL_eq]
    rfl
  show (match evBin ty .add t (.str a) (.str b) with | some v => some v | none => samePtr ty .add t (.str a) (.str b)) = _
  rw [this]
theorem mine_del {h h' : AH} (o : Mine h h') {b : Nat} (hb : h.next ≤ b) : Mine h (h'.del b) :=
  ⟨fun c x e => by
    have := o.low c x e
    rw [get_del, if_neg (by omega)]
    exact o.ext c x e, o.low, fun c x e => by
    rw [get_del] at e
    rw [next_del]
    split at e
    · cases e
    · exact o.lowN c x e, by rw [next_del]; exact o.next, by rw [mark_del]; exact o.mark, by
    rw [log_del]
    unfold logged
    cases q : Nat.blt b h'.mark with
    | true => have := blt_iff.1 q; rw [o.mark] at this; omega
    | false => exact o.log⟩
theorem atEnd21 {e : X} {T : PT AV} {H : AH} {d a b z z' : Nat} {tv : AV} {x : Int} (he : (match e with | .norm => True | .ret => True | _ => False)) (hd : H.t.get d = some .deferred) (t2 : T.get 2 = some (.ptr a 0)) (t3 : T.get 3 = some (.ptr b 0))
    (ha : (H.del d).t.get a = some (.cells [tv] z)) (hb : (H.del d).t.get b = some (.cells [.int .i64 x] z')) : atEnd Tryz.ctx Tryz.f21 ⟨e, T, [d], H⟩ = .one ⟨.tup [.agg [tv], .int .i64 x], H.del d⟩ := by
  have k1 : known (H.del d) a = some ([tv], z) := by unfold known; rw [ha]
  have k2 : known (H.del d) b = some ([.int .i64 x], z') := by unfold known; rw [hb]
  have hres : Tryz.f21.results.toList = [.cell 2 24, .cell 3 29] := rfl
  have r1 : resOf Tryz.ctx.ty T (H.del d) (.cell 2 24) = some (.agg [tv]) := by unfold resOf; simp only [Tryz.ty24, t2, k1]; rfl
  have r2 : resOf Tryz.ctx.ty T (H.del d) (.cell 3 29) = some (.int .i64 x) := by unfold resOf; simp only [Tryz.ty29, t3, k2]; rfl
  have hdm : dropMarks [d] H = some (H.del d) := by unfold dropMarks; rw [hd]; rfl
  unfold atEnd
  cases e <;> first | (exact he.elim; done) | (simp only [hdm, hres, ressOf, r1, r2]; rfl)
theorem Tryz.bd24s (h : AH) (b o n k : Nat) : evBuild Tryz.ctx.ty Tryz.y24 [(0, .sliceU b o n k)] h = .val (.agg [.sliceU b o n k]) h := by rfl
theorem Tryz.bd24n (h : AH) : evBuild Tryz.ctx.ty Tryz.y24 [(0, .nils)] h = .val (.agg [.nils]) h := by rfl
theorem VecI.bd {lo : Nat} {H : AH} {v : AV} {l : List AV} (r : VecI lo H v l) (h : AH) : evBuild Tryz.ctx.ty Tryz.y24 [(0, v)] h = .val (.agg [v]) h := by
  rcases r with ⟨rfl, _⟩ | ⟨b, fz, rfl, _⟩
  · exact Tryz.bd24n h
  · exact Tryz.bd24s h b 0 _ 1
theorem load24 {H : AH} {b z : Nat} {v : AV} (hb : H.t.get b = some (.cells [v] z)) : evLoad Tryz.y24 (.ptr b 0) H = .val (.agg [v]) H := by
  rw [load_ptr, hb]
  rfl
theorem TabI.kind {lo w n : Nat} {H : AH} {tv : AV} {t : List (List Int)} {rvs : List AV} (q : TabI lo w H tv t rvs) (hn : n ≤ lo) : (tv = .nils ∧ t = []) ∨ ∃ b k, tv = .sliceU b 0 k 1 ∧ n ≤ b := by
  rcases q.vec with ⟨h1, h2⟩ | ⟨b, fz, h1, h2, _⟩
  · have := q.len
    rw [h2] at this
    exact .inl ⟨h1, List.eq_nil_of_length_eq_zero this.symm⟩
  · exact .inr ⟨b, _, h1, by omega⟩
theorem wt_sum (t : List (List Int)) : wt t = 2 * t.length + 22 * (t.map List.length).sum := by
  unfold wt
  induction t with
  | nil => rfl
  | cons l t ih => simp only [List.map_cons, List.sum_cons, List.length_cons, ih]; omega
/-- The heap's part that a reader of a table keeps. -/
structure St21 (n0 : Nat) (e : Int) (H : AH) : Prop where
  next : n0 + 8 ≤ H.next
  q : H.t.get n0 = some (.cells [.nils] (fzNew 24))
  e : H.t.get (n0 + 1) = some (.cells [.int .i64 e] (fzNew 29))
  d : H.t.get (n0 + 6) = some .deferred
theorem St21.keep {n0 : Nat} {e : Int} {H H' : AH} (q : St21 n0 e H) (hn : H.next ≤ H'.next) (hk : ∀ c, c < n0 + 7 → c ≠ n0 + 2 → c ≠ n0 + 3 → H'.t.get c = H.t.get c) : St21 n0 e H' :=
  ⟨Nat.le_trans q.next hn, by rw [hk _ (by omega) (by omega) (by omega)]; exact q.q, by rw [hk _ (by omega) (by omega) (by omega)]; exact q.e, by rw [hk _ (by omega) (by omega) (by omega)]; exact q.d⟩
theorem Bz : type_of% (And.intro @op_build0 (And.intro @op_build1 (And.intro @Tryz.bd24 @Tryz.bd27))) :=
  And.intro @op_build0 (And.intro @op_build1 (And.intro @Tryz.bd24 @Tryz.bd27))
theorem B2 : type_of% (And.intro Bn (And.intro By Bz)) :=
  And.intro Bn (And.intro By Bz)
theorem B3 : type_of% (And.intro B2 Bl) :=
  And.intro B2 Bl
end Go.Proofs
namespace Go.Proofs
open Go.Ev
set_option maxRecDepth 100000
/-- What is known of a slice that has been appended to: it is nil, or new. -/
def NewV {α : Type} (lo : Nat) (v : AV) (l : List α) : Prop := (v = .nils ∧ l = []) ∨ ∃ b n, v = .sliceU b 0 n 1 ∧ lo ≤ b
theorem NewV.one {α : Type} {lo : Nat} {v : AV} {l : List α} (n : NewV lo v l) : v.one = true ∧ v.cells = [v] := by
  rcases n with ⟨rfl, _⟩ | ⟨b, n, rfl, _⟩ <;> exact ⟨rfl, rfl⟩
theorem VecI.newV {lo : Nat} {H : AH} {v : AV} {l : List Int} (r : VecI lo H v (intsAV l)) : NewV lo v l := by
  rcases r with ⟨rfl, h⟩ | ⟨b, fz, h1, h2, _⟩
  · exact .inl ⟨rfl, by unfold intsAV at h; simpa using h⟩
  · exact .inr ⟨b, _, h1, h2⟩
/-- What quandle.Parse leaves. -/
structure Out21 (h : AH) (e : Int) (tv : AV) (h' : AH) : Prop where
  ext : Ext h h'
  lowN : ∀ b x, h'.t.get b = some x → b < h'.next
  next : h.next ≤ h'.next
  mark : h'.mark = h.mark
  log : h'.log = h.log
  tab : ∃ t R, (∀ H' : AH, (∀ c, h.next ≤ c → H'.t.get c = h'.t.get c) → TabT H' tv t R) ∧ NewV h.next tv t ∧ t.length ≤ 10001 ∧ wt t ≤ 16000000 ∧ ∀ l ∈ t, ∀ x ∈ l, 0 ≤ x ∧ x ≤ 30
end Go.Proofs
