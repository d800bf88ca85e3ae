/- Part of the proof. -/
import Derived.Test.YtggkgmmhblamfaaGreatDoorTWA
import Derived.Test.YtggkgmmhblamfaaGreatDoorTEvW
set_option linter.all false
namespace Go.Proofs
open Go.Ev
set_option maxRecDepth 100000
/-- tv is a table: R i its rows. -/
structure TabT (h : AH) (tv : AV) (t : List (List Int)) (R : Nat → AV) : Prop where
  len : ∀ h' : AH, evLen Tryz.ctx.ty Tryz.y22 tv h' = some (.int .i64 t.length)
  rlen : ∀ (i : Nat) (l : List Int), t[i]? = some l → ∀ h' : AH, evLen Tryz.ctx.ty Tryz.y25 (R i) h' = some (.int .i64 l.length)
  row : ∀ (i : Nat) (l : List Int), t[i]? = some l → ∀ h' : AH, Ext h h' → ∃ b o, evIndexAddr Tryz.ctx.ty Tryz.y22 tv (.int .i64 i) h' = .val (.ptr b o) h' ∧ evLoad Tryz.y25 (.ptr b o) h' = .val (R i) h'
  ent : ∀ (i : Nat) (l : List Int) (j : Nat) (x : Int), t[i]? = some l → l[j]? = some x → ∀ h' : AH, Ext h h' → ∃ b o, evIndexAddr Tryz.ctx.ty Tryz.y25 (R i) (.int .i64 j) h' = .val (.ptr b o) h' ∧ evLoad Tryz.y3 (.ptr b o) h' = .val (.int .i64 x) h'
theorem TabT.mono {h h' : AH} {tv : AV} {t : List (List Int)} {R : Nat → AV} (q : TabT h tv t R) (e : Ext h h') : TabT h' tv t R :=
  ⟨q.len, q.rlen, fun i l hi h'' e' => q.row i l hi h'' (e.trans e'), fun i l j x hi hj h'' e' => q.ent i l j x hi hj h'' (e.trans e')⟩
def entT (t : List (List Int)) (i j : Nat) : Nat := (((t[i]?).bind (·[j]?)).getD 0).toNat
theorem TabT.sq {h : AH} {tv : AV} {t : List (List Int)} {R : Nat → AV} (q : TabT h tv t R) (hl : ∀ (i : Nat) (l : List Int), t[i]? = some l → l.length = t.length)
    (he : ∀ (i : Nat) (l : List Int) (j : Nat) (x : Int), t[i]? = some l → l[j]? = some x → 0 ≤ x ∧ x < t.length) : SqT h tv t.length R (entT t) := by
  have get : ∀ i, i < t.length → ∃ l, t[i]? = some l := fun i hi => ⟨_, List.getElem?_eq_getElem hi⟩
  refine ⟨q.len, fun i hi h' => ?_, fun i hi h' e => ?_, fun i j hi hj h' e => ?_, fun i j hi hj => ?_⟩
  · obtain ⟨l, hl'⟩ := get i hi
    rw [q.rlen i l hl' h', hl i l hl']
  · obtain ⟨l, hl'⟩ := get i hi
    exact q.row i l hl' h' e
  · obtain ⟨l, hl'⟩ := get i hi
    obtain ⟨x, hx⟩ : ∃ x, l[j]? = some x := ⟨_, List.getElem?_eq_getElem (by rw [hl i l hl']; exact hj)⟩
    obtain ⟨b, o, h1, h2⟩ := q.ent i l j x hl' hx h' e
    refine ⟨b, o, h1, ?_⟩
    rw [h2]
    have := (he i l j x hl' hx).1
    simp only [entT, hl', Option.bind_some, hx, Option.getD_some]
    rw [Int.toNat_of_nonneg this]
  · obtain ⟨l, hl'⟩ := get i hi
    obtain ⟨x, hx⟩ : ∃ x, l[j]? = some x := ⟨_, List.getElem?_eq_getElem (by rw [hl i l hl']; exact hj)⟩
    have := he i l j x hl' hx
    simp only [entT, hl', Option.bind_some, hx, Option.getD_some]
    omega
/-- What certificate.valid asks of a table. -/
def VT (t : List (List Int)) : Prop :=
  1 ≤ t.length ∧ t.length ≤ 30 ∧ (∀ (i : Nat) (l : List Int), t[i]? = some l → l.length = t.length ∧ ∀ (j : Nat) (y : Int), l[j]? = some y → 0 ≤ y ∧ y < t.length) ∧
  Idem t.length (entT t) ∧ Inj t.length (entT t) ∧ Dist t.length (entT t)
theorem Tryz.c19 {S : Summ} (hS : S.get 19 = none) (hS41 : S.get 41 = none) (hS42 : S.get 42 = none) (hS43 : S.get 43 = none) {h : AH} (low : ∀ b x, h.t.get b = some x → b < h.next) {tv : AV} {t : List (List Int)} {R : Nat → AV} (q : TabT h tv t R)
    (hbig : t.length < 4611686018427387904) {bb : Bool} (hbb : bb = true ↔ VT t) :
    RunCall Tryz.ctx S 19 [.agg [tv]] h ⟨.bool bb, h⟩ := by
  have key : WRun Tryz.ctx S 19 Tryz.f19.ntmps none (Tryz.f19.body.getD .skip) (argsT [.agg [tv]] 0 .leaf) [] ⟨h.t, h.next, h.next, []⟩ fun e T df h' => (match e with | .norm => True | .ret => True | _ => False) ∧ df = [] ∧ h'.log = [] ∧ T.get 2 = some (.bool bb) := by
    have hO := (Mine.start low).add (.cells [tv] 0)
    have hb : ((⟨h.t, h.next, h.next, []⟩ : AH).add (.cells [tv] 0)).t.get h.next = some (.cells [tv] 0) := get_add_self
    have g0 : (argsT [.agg [tv]] 0 .leaf).get 0 = some (.agg [tv]) := rfl
    generalize argsT [.agg [tv]] 0 .leaf = T at g0
    (first | refine WRun.seq (WRun.region ?_) | refine WRun.seq (WRun.seq (WRun.region ?_)) | refine WRun.region ?_ | refine WRun.seq (WRun.seq (WRun.seq (WRun.region ?_)))); ((repeat (first | refine WOps.a rfl (by simp only [reduceIte, Nat.reduceEqDiff, Nat.reduceAdd, Bm, g0] <;> rfl) ?_ | refine WOps.b rfl rfl rfl (by simp only [reduceIte, Nat.reduceEqDiff, Nat.reduceAdd, Bm, g0] <;> rfl) ?_)); refine WOps.nil ?_)
    generalize ((⟨h.t, h.next, h.next, []⟩ : AH).add (.cells [tv] 0)) = H at hO hb
    have ql := q.len
    (first | refine WRun.seq (WRun.region ?_) | refine WRun.seq (WRun.seq (WRun.region ?_)) | refine WRun.region ?_ | refine WRun.seq (WRun.seq (WRun.seq (WRun.region ?_)))); ((repeat (first | refine WOps.a rfl (by simp only [reduceIte, Nat.reduceEqDiff, Nat.reduceAdd, Bm, g0, hb, ql] <;> rfl) ?_ | refine WOps.b rfl rfl rfl (by simp only [reduceIte, Nat.reduceEqDiff, Nat.reduceAdd, Bm, g0, hb, ql] <;> rfl) ?_)); refine WOps.nil ?_)
    have no : ¬VT t → bb = false := fun h => by cases bb with | false => rfl | true => exact absurd (hbb.1 rfl) h
    cases d1 : decide ((t.length : Int) < 1)
    rotate_left
    · obtain rfl := no fun v => by have := of_decide_eq_true d1; have := v.1; omega
      (first | refine WRun.seq (WRun.region ?_) | refine WRun.seq (WRun.seq (WRun.region ?_)) | refine WRun.region ?_ | refine WRun.seq (WRun.seq (WRun.seq (WRun.region ?_)))); ((repeat (first | refine WOps.a rfl (by simp only [reduceIte, Nat.reduceEqDiff, Nat.reduceAdd, Bm, d1] <;> rfl) ?_ | refine WOps.b rfl rfl rfl (by simp only [reduceIte, Nat.reduceEqDiff, Nat.reduceAdd, Bm, d1] <;> rfl) ?_)); refine WOps.nil ?_)
      (first | refine WRun.condT (by simp only [reduceIte, Nat.reduceEqDiff, Nat.reduceAdd, Bm, d1] <;> rfl) ?_ | refine WRun.seq (WRun.condT (by simp only [reduceIte, Nat.reduceEqDiff, Nat.reduceAdd, Bm, d1] <;> rfl) ?_))
      (first | refine WRun.seq (WRun.region ?_) | refine WRun.seq (WRun.seq (WRun.region ?_)) | refine WRun.region ?_ | refine WRun.seq (WRun.seq (WRun.seq (WRun.region ?_)))); ((repeat (first | refine WOps.a rfl (by simp only [reduceIte, Nat.reduceEqDiff, Nat.reduceAdd, Bm, g0] <;> rfl) ?_ | refine WOps.b rfl rfl rfl (by simp only [reduceIte, Nat.reduceEqDiff, Nat.reduceAdd, Bm, g0] <;> rfl) ?_)); refine WOps.nil ?_)
      exact WRun.ret ⟨trivial, rfl, hO.log, (by simp only [reduceIte, Nat.reduceEqDiff, Nat.reduceAdd, Bm, g0] <;> rfl)⟩
    cases d2 : decide ((30 : Int) < (t.length : Int))
    rotate_left
    · obtain rfl := no fun v => by have := of_decide_eq_true d2; have := v.2.1; omega
      (first | refine WRun.seq (WRun.region ?_) | refine WRun.seq (WRun.seq (WRun.region ?_)) | refine WRun.region ?_ | refine WRun.seq (WRun.seq (WRun.seq (WRun.region ?_)))); ((repeat (first | refine WOps.a rfl (by simp only [reduceIte, Nat.reduceEqDiff, Nat.reduceAdd, Bm, d1, d2] <;> rfl) ?_ | refine WOps.b rfl rfl rfl (by simp only [reduceIte, Nat.reduceEqDiff, Nat.reduceAdd, Bm, d1, d2] <;> rfl) ?_)); refine WOps.nil ?_)
      (first | refine WRun.condT (by simp only [reduceIte, Nat.reduceEqDiff, Nat.reduceAdd, Bm, d1] <;> rfl) ?_ | refine WRun.seq (WRun.condT (by simp only [reduceIte, Nat.reduceEqDiff, Nat.reduceAdd, Bm, d1] <;> rfl) ?_))
      (first | refine WRun.seq (WRun.region ?_) | refine WRun.seq (WRun.seq (WRun.region ?_)) | refine WRun.region ?_ | refine WRun.seq (WRun.seq (WRun.seq (WRun.region ?_)))); ((repeat (first | refine WOps.a rfl (by simp only [reduceIte, Nat.reduceEqDiff, Nat.reduceAdd, Bm, g0] <;> rfl) ?_ | refine WOps.b rfl rfl rfl (by simp only [reduceIte, Nat.reduceEqDiff, Nat.reduceAdd, Bm, g0] <;> rfl) ?_)); refine WOps.nil ?_)
      exact WRun.ret ⟨trivial, rfl, hO.log, (by simp only [reduceIte, Nat.reduceEqDiff, Nat.reduceAdd, Bm, g0] <;> rfl)⟩
    have hn : t.length ≤ 30 := by have := of_decide_eq_false d2; omega
    (first | refine WRun.seq (WRun.region ?_) | refine WRun.seq (WRun.seq (WRun.region ?_)) | refine WRun.region ?_ | refine WRun.seq (WRun.seq (WRun.seq (WRun.region ?_)))); ((repeat (first | refine WOps.a rfl (by simp only [reduceIte, Nat.reduceEqDiff, Nat.reduceAdd, Bm, d1, d2] <;> rfl) ?_ | refine WOps.b rfl rfl rfl (by simp only [reduceIte, Nat.reduceEqDiff, Nat.reduceAdd, Bm, d1, d2] <;> rfl) ?_)); refine WOps.nil ?_)
    (first | refine WRun.condF (by simp only [reduceIte, Nat.reduceEqDiff, Nat.reduceAdd, Bm, d1] <;> rfl) ?_ | refine WRun.seq (WRun.condF (by simp only [reduceIte, Nat.reduceEqDiff, Nat.reduceAdd, Bm, d1] <;> rfl) ?_))
    refine WRun.skip ?_
    (first | refine WRun.seq (WRun.region ?_) | refine WRun.seq (WRun.seq (WRun.region ?_)) | refine WRun.region ?_ | refine WRun.seq (WRun.seq (WRun.seq (WRun.region ?_)))); ((repeat (first | refine WOps.a rfl (by simp only [reduceIte, Nat.reduceEqDiff, Nat.reduceAdd, Bm, hb, ql] <;> rfl) ?_ | refine WOps.b rfl rfl rfl (by simp only [reduceIte, Nat.reduceEqDiff, Nat.reduceAdd, Bm, hb, ql] <;> rfl) ?_)); refine WOps.nil ?_)
    refine WRun.block ?_
    refine WRun.loop (I := fun m T h' => ∃ x : Nat, m + x = t.length ∧ H = h' ∧ T.get 1 = some (.ptr h.next 0) ∧ T.get 3 = some (.int .i64 t.length) ∧ T.get 18 = some tv ∧ T.get 19 = some (.int .i64 t.length) ∧ T.get 20 = some (.int .i64 x) ∧
      (∀ (i : Nat) (l : List Int), i < x → t[i]? = some l → l.length = t.length ∧ ∀ (j : Nat) (y : Int), l[j]? = some y → 0 ≤ y ∧ y < t.length)) (m := t.length) ?_ ⟨0, by omega, rfl, (by simp only [reduceIte, Nat.reduceEqDiff, Nat.reduceAdd, Bm, g0] <;> rfl), (by simp only [reduceIte, Nat.reduceEqDiff, Nat.reduceAdd, Bm, g0] <;> rfl), (by simp only [reduceIte, Nat.reduceEqDiff, Nat.reduceAdd, Bm, g0] <;> rfl), (by simp only [reduceIte, Nat.reduceEqDiff, Nat.reduceAdd, Bm, g0] <;> rfl), (by simp only [reduceIte, Nat.reduceEqDiff, Nat.reduceAdd, Bm, g0] <;> rfl), fun i l hi => by omega⟩
    rintro m T _ ⟨x, hm, rfl, t1, t3, t18, t19, t20, hgood⟩
    by_cases hx : x < t.length
    · have hlt : ((x : Int) < (t.length : Int)) = True := by simp; exact hx
      have ad := add1 x (by omega)
      obtain ⟨l, hl⟩ : ∃ l, t[x]? = some l := ⟨_, List.getElem?_eq_getElem hx⟩
      obtain ⟨b1, o1, a1, l1⟩ := q.row x l hl H hO.ext
      have rl := q.rlen x l hl
      (first | refine WRun.seq (WRun.region ?_) | refine WRun.seq (WRun.seq (WRun.region ?_)) | refine WRun.region ?_ | refine WRun.seq (WRun.seq (WRun.seq (WRun.region ?_)))); ((repeat (first | refine WOps.a rfl (by simp only [reduceIte, Nat.reduceEqDiff, Nat.reduceAdd, Bm, t19, t20, hlt] <;> rfl) ?_ | refine WOps.b rfl rfl rfl (by simp only [reduceIte, Nat.reduceEqDiff, Nat.reduceAdd, Bm, t19, t20, hlt] <;> rfl) ?_)); refine WOps.nil ?_)
      (first | refine WRun.condT (by simp only [reduceIte, Nat.reduceEqDiff, Nat.reduceAdd, Bm, hlt] <;> rfl) ?_ | refine WRun.seq (WRun.condT (by simp only [reduceIte, Nat.reduceEqDiff, Nat.reduceAdd, Bm, hlt] <;> rfl) ?_))
      refine WRun.skip ?_
      refine WRun.seq (WRun.block ?_)
      (first | refine WRun.seq (WRun.region ?_) | refine WRun.seq (WRun.seq (WRun.region ?_)) | refine WRun.region ?_ | refine WRun.seq (WRun.seq (WRun.seq (WRun.region ?_)))); ((repeat (first | refine WOps.a rfl (by simp only [reduceIte, Nat.reduceEqDiff, Nat.reduceAdd, Bn, t18, t20, a1, l1] <;> rfl) ?_ | refine WOps.b rfl rfl rfl (by simp only [reduceIte, Nat.reduceEqDiff, Nat.reduceAdd, Bn, t18, t20, a1, l1] <;> rfl) ?_)); refine WOps.nil ?_)
      cases d3 : decide ((l.length : Int) = (t.length : Int))
      · obtain rfl := no fun v => by have := of_decide_eq_false d3; have := (v.2.2.1 x l hl).1; omega
        (first | refine WRun.seq (WRun.region ?_) | refine WRun.seq (WRun.seq (WRun.region ?_)) | refine WRun.region ?_ | refine WRun.seq (WRun.seq (WRun.seq (WRun.region ?_)))); ((repeat (first | refine WOps.a rfl (by simp only [reduceIte, Nat.reduceEqDiff, Nat.reduceAdd, Bm, t3, rl, d3] <;> rfl) ?_ | refine WOps.b rfl rfl rfl (by simp only [reduceIte, Nat.reduceEqDiff, Nat.reduceAdd, Bm, t3, rl, d3] <;> rfl) ?_)); refine WOps.nil ?_)
        (first | refine WRun.condT (by simp only [reduceIte, Nat.reduceEqDiff, Nat.reduceAdd, Bm, d3] <;> rfl) ?_ | refine WRun.seq (WRun.condT (by simp only [reduceIte, Nat.reduceEqDiff, Nat.reduceAdd, Bm, d3] <;> rfl) ?_))
        (first | refine WRun.seq (WRun.region ?_) | refine WRun.seq (WRun.seq (WRun.region ?_)) | refine WRun.region ?_ | refine WRun.seq (WRun.seq (WRun.seq (WRun.region ?_)))); ((repeat (first | refine WOps.a rfl (by simp only [reduceIte, Nat.reduceEqDiff, Nat.reduceAdd, Bm, t3] <;> rfl) ?_ | refine WOps.b rfl rfl rfl (by simp only [reduceIte, Nat.reduceEqDiff, Nat.reduceAdd, Bm, t3] <;> rfl) ?_)); refine WOps.nil ?_)
        exact WRun.ret ⟨trivial, rfl, hO.log, (by simp only [reduceIte, Nat.reduceEqDiff, Nat.reduceAdd, Bm, t3] <;> rfl)⟩
      have hll : l.length = t.length := by have := of_decide_eq_true d3; omega
      (first | refine WRun.seq (WRun.region ?_) | refine WRun.seq (WRun.seq (WRun.region ?_)) | refine WRun.region ?_ | refine WRun.seq (WRun.seq (WRun.seq (WRun.region ?_)))); ((repeat (first | refine WOps.a rfl (by simp only [reduceIte, Nat.reduceEqDiff, Nat.reduceAdd, Bm, t3, rl, d3] <;> rfl) ?_ | refine WOps.b rfl rfl rfl (by simp only [reduceIte, Nat.reduceEqDiff, Nat.reduceAdd, Bm, t3, rl, d3] <;> rfl) ?_)); refine WOps.nil ?_)
      (first | refine WRun.condF (by simp only [reduceIte, Nat.reduceEqDiff, Nat.reduceAdd, Bm, d3] <;> rfl) ?_ | refine WRun.seq (WRun.condF (by simp only [reduceIte, Nat.reduceEqDiff, Nat.reduceAdd, Bm, d3] <;> rfl) ?_))
      refine WRun.skip ?_
      (first | refine WRun.seq (WRun.region ?_) | refine WRun.seq (WRun.seq (WRun.region ?_)) | refine WRun.region ?_ | refine WRun.seq (WRun.seq (WRun.seq (WRun.region ?_)))); ((repeat (first | refine WOps.a rfl (by simp only [reduceIte, Nat.reduceEqDiff, Nat.reduceAdd, Bm, t3, rl] <;> rfl) ?_ | refine WOps.b rfl rfl rfl (by simp only [reduceIte, Nat.reduceEqDiff, Nat.reduceAdd, Bm, t3, rl] <;> rfl) ?_)); refine WOps.nil ?_)
      refine WRun.block ?_
      refine WRun.loop (I := fun m T h' => ∃ y : Nat, m + y = l.length ∧ H = h' ∧ T.get 1 = some (.ptr h.next 0) ∧ T.get 3 = some (.int .i64 t.length) ∧ T.get 18 = some tv ∧ T.get 19 = some (.int .i64 t.length) ∧ T.get 20 = some (.int .i64 x) ∧
        T.get 28 = some (R x) ∧ T.get 29 = some (.int .i64 l.length) ∧ T.get 30 = some (.int .i64 y) ∧ (∀ (j : Nat) (z : Int), j < y → l[j]? = some z → 0 ≤ z ∧ z < t.length)) (m := l.length) ?_
        ⟨0, by omega, rfl, (by simp only [reduceIte, Nat.reduceEqDiff, Nat.reduceAdd, Bm, t1] <;> rfl), (by simp only [reduceIte, Nat.reduceEqDiff, Nat.reduceAdd, Bm, t3] <;> rfl), (by simp only [reduceIte, Nat.reduceEqDiff, Nat.reduceAdd, Bm, t18] <;> rfl), (by simp only [reduceIte, Nat.reduceEqDiff, Nat.reduceAdd, Bm, t19] <;> rfl), (by simp only [reduceIte, Nat.reduceEqDiff, Nat.reduceAdd, Bm, t20] <;> rfl), (by simp only [reduceIte, Nat.reduceEqDiff, Nat.reduceAdd, Bm, t3] <;> rfl), (by simp only [reduceIte, Nat.reduceEqDiff, Nat.reduceAdd, Bm, t3] <;> rfl), (by simp only [reduceIte, Nat.reduceEqDiff, Nat.reduceAdd, Bm, t3] <;> rfl), fun j z hj => by omega⟩
      rintro m2 T _ ⟨y, hm2, rfl, t1, t3, t18, t19, t20, t28, t29, t30, hrow⟩
      by_cases hy : y < l.length
      · have hlt : ((y : Int) < (l.length : Int)) = True := by simp; exact hy
        have ad := add1 y (by omega)
        obtain ⟨z, hz⟩ : ∃ z, l[y]? = some z := ⟨_, List.getElem?_eq_getElem hy⟩
        obtain ⟨b2, o2, a2, l2⟩ := q.ent x l y z hl hz H hO.ext
        (first | refine WRun.seq (WRun.region ?_) | refine WRun.seq (WRun.seq (WRun.region ?_)) | refine WRun.region ?_ | refine WRun.seq (WRun.seq (WRun.seq (WRun.region ?_)))); ((repeat (first | refine WOps.a rfl (by simp only [reduceIte, Nat.reduceEqDiff, Nat.reduceAdd, Bm, t29, t30, hlt] <;> rfl) ?_ | refine WOps.b rfl rfl rfl (by simp only [reduceIte, Nat.reduceEqDiff, Nat.reduceAdd, Bm, t29, t30, hlt] <;> rfl) ?_)); refine WOps.nil ?_)
        (first | refine WRun.condT (by simp only [reduceIte, Nat.reduceEqDiff, Nat.reduceAdd, Bm, hlt] <;> rfl) ?_ | refine WRun.seq (WRun.condT (by simp only [reduceIte, Nat.reduceEqDiff, Nat.reduceAdd, Bm, hlt] <;> rfl) ?_))
        refine WRun.skip ?_
        refine WRun.seq (WRun.block ?_)
        (first | refine WRun.seq (WRun.region ?_) | refine WRun.seq (WRun.seq (WRun.region ?_)) | refine WRun.region ?_ | refine WRun.seq (WRun.seq (WRun.seq (WRun.region ?_)))); ((repeat (first | refine WOps.a rfl (by simp only [reduceIte, Nat.reduceEqDiff, Nat.reduceAdd, Bn, t28, t30, a2, l2] <;> rfl) ?_ | refine WOps.b rfl rfl rfl (by simp only [reduceIte, Nat.reduceEqDiff, Nat.reduceAdd, Bn, t28, t30, a2, l2] <;> rfl) ?_)); refine WOps.nil ?_)
        cases d4 : decide (z < 0)
        rotate_left
        · obtain rfl := no fun v => by have := of_decide_eq_true d4; have := (v.2.2.1 x l hl).2 y z hz; omega
          (first | refine WRun.seq (WRun.region ?_) | refine WRun.seq (WRun.seq (WRun.region ?_)) | refine WRun.region ?_ | refine WRun.seq (WRun.seq (WRun.seq (WRun.region ?_)))); ((repeat (first | refine WOps.a rfl (by simp only [reduceIte, Nat.reduceEqDiff, Nat.reduceAdd, Bm, t3, d4] <;> rfl) ?_ | refine WOps.b rfl rfl rfl (by simp only [reduceIte, Nat.reduceEqDiff, Nat.reduceAdd, Bm, t3, d4] <;> rfl) ?_)); refine WOps.nil ?_)
          (first | refine WRun.condT (by simp only [reduceIte, Nat.reduceEqDiff, Nat.reduceAdd, Bm, d4] <;> rfl) ?_ | refine WRun.seq (WRun.condT (by simp only [reduceIte, Nat.reduceEqDiff, Nat.reduceAdd, Bm, d4] <;> rfl) ?_))
          (first | refine WRun.seq (WRun.region ?_) | refine WRun.seq (WRun.seq (WRun.region ?_)) | refine WRun.region ?_ | refine WRun.seq (WRun.seq (WRun.seq (WRun.region ?_)))); ((repeat (first | refine WOps.a rfl (by simp only [reduceIte, Nat.reduceEqDiff, Nat.reduceAdd, Bm, t3] <;> rfl) ?_ | refine WOps.b rfl rfl rfl (by simp only [reduceIte, Nat.reduceEqDiff, Nat.reduceAdd, Bm, t3] <;> rfl) ?_)); refine WOps.nil ?_)
          exact WRun.ret ⟨trivial, rfl, hO.log, (by simp only [reduceIte, Nat.reduceEqDiff, Nat.reduceAdd, Bm, t3] <;> rfl)⟩
        cases d5 : decide ((t.length : Int) ≤ z)
        rotate_left
        · obtain rfl := no fun v => by have := of_decide_eq_true d5; have := (v.2.2.1 x l hl).2 y z hz; omega
          (first | refine WRun.seq (WRun.region ?_) | refine WRun.seq (WRun.seq (WRun.region ?_)) | refine WRun.region ?_ | refine WRun.seq (WRun.seq (WRun.seq (WRun.region ?_)))); ((repeat (first | refine WOps.a rfl (by simp only [reduceIte, Nat.reduceEqDiff, Nat.reduceAdd, Bm, t3, d4, d5] <;> rfl) ?_ | refine WOps.b rfl rfl rfl (by simp only [reduceIte, Nat.reduceEqDiff, Nat.reduceAdd, Bm, t3, d4, d5] <;> rfl) ?_)); refine WOps.nil ?_)
          (first | refine WRun.condT (by simp only [reduceIte, Nat.reduceEqDiff, Nat.reduceAdd, Bm, d4] <;> rfl) ?_ | refine WRun.seq (WRun.condT (by simp only [reduceIte, Nat.reduceEqDiff, Nat.reduceAdd, Bm, d4] <;> rfl) ?_))
          (first | refine WRun.seq (WRun.region ?_) | refine WRun.seq (WRun.seq (WRun.region ?_)) | refine WRun.region ?_ | refine WRun.seq (WRun.seq (WRun.seq (WRun.region ?_)))); ((repeat (first | refine WOps.a rfl (by simp only [reduceIte, Nat.reduceEqDiff, Nat.reduceAdd, Bm, t3] <;> rfl) ?_ | refine WOps.b rfl rfl rfl (by simp only [reduceIte, Nat.reduceEqDiff, Nat.reduceAdd, Bm, t3] <;> rfl) ?_)); refine WOps.nil ?_)
          exact WRun.ret ⟨trivial, rfl, hO.log, (by simp only [reduceIte, Nat.reduceEqDiff, Nat.reduceAdd, Bm, t3] <;> rfl)⟩
        (first | refine WRun.seq (WRun.region ?_) | refine WRun.seq (WRun.seq (WRun.region ?_)) | refine WRun.region ?_ | refine WRun.seq (WRun.seq (WRun.seq (WRun.region ?_)))); ((repeat (first | refine WOps.a rfl (by simp only [reduceIte, Nat.reduceEqDiff, Nat.reduceAdd, Bm, t3, d4, d5] <;> rfl) ?_ | refine WOps.b rfl rfl rfl (by simp only [reduceIte, Nat.reduceEqDiff, Nat.reduceAdd, Bm, t3, d4, d5] <;> rfl) ?_)); refine WOps.nil ?_)
        (first | refine WRun.condF (by simp only [reduceIte, Nat.reduceEqDiff, Nat.reduceAdd, Bm, d4] <;> rfl) ?_ | refine WRun.seq (WRun.condF (by simp only [reduceIte, Nat.reduceEqDiff, Nat.reduceAdd, Bm, d4] <;> rfl) ?_))
        refine WRun.skip ?_
        (first | refine WRun.seq (WRun.region ?_) | refine WRun.seq (WRun.seq (WRun.region ?_)) | refine WRun.region ?_ | refine WRun.seq (WRun.seq (WRun.seq (WRun.region ?_)))); ((repeat (first | refine WOps.a rfl (by simp only [reduceIte, Nat.reduceEqDiff, Nat.reduceAdd, Bm, t30, ad] <;> rfl) ?_ | refine WOps.b rfl rfl rfl (by simp only [reduceIte, Nat.reduceEqDiff, Nat.reduceAdd, Bm, t30, ad] <;> rfl) ?_)); refine WOps.nil ?_)
        refine ⟨rfl, m2 - 1, by omega, y + 1, by omega, rfl, (by simp only [reduceIte, Nat.reduceEqDiff, Nat.reduceAdd, Bm, t1] <;> rfl), (by simp only [reduceIte, Nat.reduceEqDiff, Nat.reduceAdd, Bm, t3] <;> rfl), (by simp only [reduceIte, Nat.reduceEqDiff, Nat.reduceAdd, Bm, t18] <;> rfl), (by simp only [reduceIte, Nat.reduceEqDiff, Nat.reduceAdd, Bm, t19] <;> rfl), (by simp only [reduceIte, Nat.reduceEqDiff, Nat.reduceAdd, Bm, t20] <;> rfl), (by simp only [reduceIte, Nat.reduceEqDiff, Nat.reduceAdd, Bm, t28] <;> rfl), (by simp only [reduceIte, Nat.reduceEqDiff, Nat.reduceAdd, Bm, t29] <;> rfl), (by simp only [reduceIte, Nat.reduceEqDiff, Nat.reduceAdd, Bm, t30] <;> rfl), fun j z' hj hz' => ?_⟩
        by_cases e : j = y
        · subst e
          rw [hz] at hz'; cases hz'
          have := of_decide_eq_false d4
          have := of_decide_eq_false d5
          omega
        · exact hrow j z' (by omega) hz'
      · have hlt : ((y : Int) < (l.length : Int)) = False := by simp; omega
        (first | refine WRun.seq (WRun.region ?_) | refine WRun.seq (WRun.seq (WRun.region ?_)) | refine WRun.region ?_ | refine WRun.seq (WRun.seq (WRun.seq (WRun.region ?_)))); ((repeat (first | refine WOps.a rfl (by simp only [reduceIte, Nat.reduceEqDiff, Nat.reduceAdd, Bm, t29, t30, hlt] <;> rfl) ?_ | refine WOps.b rfl rfl rfl (by simp only [reduceIte, Nat.reduceEqDiff, Nat.reduceAdd, Bm, t29, t30, hlt] <;> rfl) ?_)); refine WOps.nil ?_)
        (first | refine WRun.condF (by simp only [reduceIte, Nat.reduceEqDiff, Nat.reduceAdd, Bm, hlt] <;> rfl) ?_ | refine WRun.seq (WRun.condF (by simp only [reduceIte, Nat.reduceEqDiff, Nat.reduceAdd, Bm, hlt] <;> rfl) ?_))
        refine WRun.exit ?_
        (first | refine WRun.seq (WRun.region ?_) | refine WRun.seq (WRun.seq (WRun.region ?_)) | refine WRun.region ?_ | refine WRun.seq (WRun.seq (WRun.seq (WRun.region ?_)))); ((repeat (first | refine WOps.a rfl (by simp only [reduceIte, Nat.reduceEqDiff, Nat.reduceAdd, Bm, t20, ad] <;> rfl) ?_ | refine WOps.b rfl rfl rfl (by simp only [reduceIte, Nat.reduceEqDiff, Nat.reduceAdd, Bm, t20, ad] <;> rfl) ?_)); refine WOps.nil ?_)
        refine ⟨rfl, m - 1, by omega, x + 1, by omega, rfl, (by simp only [reduceIte, Nat.reduceEqDiff, Nat.reduceAdd, Bm, t1] <;> rfl), (by simp only [reduceIte, Nat.reduceEqDiff, Nat.reduceAdd, Bm, t3] <;> rfl), (by simp only [reduceIte, Nat.reduceEqDiff, Nat.reduceAdd, Bm, t18] <;> rfl), (by simp only [reduceIte, Nat.reduceEqDiff, Nat.reduceAdd, Bm, t19] <;> rfl), (by simp only [reduceIte, Nat.reduceEqDiff, Nat.reduceAdd, Bm, t20] <;> rfl), fun i l' hi hl' => ?_⟩
        by_cases e : i = x
        · subst e
          rw [hl] at hl'; cases hl'
          exact ⟨hll, fun j z hz => hrow j z (by have := (List.getElem?_eq_some_iff.1 hz).1; omega) hz⟩
        · exact hgood i l' (by omega) hl'
    · have hlt : ((x : Int) < (t.length : Int)) = False := by simp; omega
      have hlti : ∀ (i : Nat) (l : List Int), t[i]? = some l → i < x := fun i l hl => by have := (List.getElem?_eq_some_iff.1 hl).1; omega
      have sq := q.sq (fun i l hl => (hgood i l (hlti i l hl) hl).1) fun i l j y hl hy => (hgood i l (hlti i l hl) hl).2 j y hy
      (first | refine WRun.seq (WRun.region ?_) | refine WRun.seq (WRun.seq (WRun.region ?_)) | refine WRun.region ?_ | refine WRun.seq (WRun.seq (WRun.seq (WRun.region ?_)))); ((repeat (first | refine WOps.a rfl (by simp only [reduceIte, Nat.reduceEqDiff, Nat.reduceAdd, Bm, t19, t20, hlt] <;> rfl) ?_ | refine WOps.b rfl rfl rfl (by simp only [reduceIte, Nat.reduceEqDiff, Nat.reduceAdd, Bm, t19, t20, hlt] <;> rfl) ?_)); refine WOps.nil ?_)
      (first | refine WRun.condF (by simp only [reduceIte, Nat.reduceEqDiff, Nat.reduceAdd, Bm, hlt] <;> rfl) ?_ | refine WRun.seq (WRun.condF (by simp only [reduceIte, Nat.reduceEqDiff, Nat.reduceAdd, Bm, hlt] <;> rfl) ?_))
      refine WRun.exit ?_
      have lowH : ∀ b x, H.t.get b = some x → b < H.next := hO.lowN
      have hpos : 1 ≤ t.length := by have := of_decide_eq_false d1; omega
      have hrows : ∀ (i : Nat) (l : List Int), t[i]? = some l → l.length = t.length ∧ ∀ (j : Nat) (y : Int), l[j]? = some y → 0 ≤ y ∧ y < t.length := fun i l hl => hgood i l (hlti i l hl) hl
      refine WRun.seq (WRun.region ?_)
      iterate 2 (first | refine WOps.a rfl (by simp only [reduceIte, Nat.reduceEqDiff, Nat.reduceAdd, Bm, t1, hb] <;> rfl) ?_ | refine WOps.vG ((guard_bool rfl rfl (by simp only [reduceIte, Nat.reduceEqDiff, Nat.reduceAdd, Bm, t1, hb] <;> rfl)).trans rfl) (by simp only [reduceIte, Nat.reduceEqDiff, Nat.reduceAdd, Bm, t1, hb] <;> rfl) rfl ?_ | refine WOps.nG (by first | exact (guard_bool rfl rfl (by simp only [reduceIte, Nat.reduceEqDiff, Nat.reduceAdd, Bm, t1, hb] <;> rfl)).trans rfl | exact guard_not rfl rfl (by simp only [reduceIte, Nat.reduceEqDiff, Nat.reduceAdd, Bm, t1, hb] <;> rfl)) rfl ?_)
      by_cases v1 : Idem t.length (entT t)
      rotate_left
      · obtain rfl := no fun v => v1 v.2.2.2.1
        refine WOps.cN (op_call1 (v := tv) (by simp only [reduceIte, Nat.reduceEqDiff, Nat.reduceAdd, Bm, t1] <;> rfl) Tryz.fn41 Tryz.ex41) (Tryz.c41 (S := S) hS41 (sq.mono hO.ext) hn (bb := false) (by simp [v1])) rfl ?_
        ((repeat (first | refine WOps.a rfl (by simp only [reduceIte, Nat.reduceEqDiff, Nat.reduceAdd, Bm, t1, hb] <;> rfl) ?_ | refine WOps.b rfl rfl rfl (by simp only [reduceIte, Nat.reduceEqDiff, Nat.reduceAdd, Bm, t1, hb] <;> rfl) ?_)); refine WOps.nil ?_)
        exact WRun.ret ⟨trivial, rfl, hO.log, (by simp only [reduceIte, Nat.reduceEqDiff, Nat.reduceAdd, Bm, t1] <;> rfl)⟩
      refine WOps.cN (op_call1 (v := tv) (by simp only [reduceIte, Nat.reduceEqDiff, Nat.reduceAdd, Bm, t1] <;> rfl) Tryz.fn41 Tryz.ex41) (Tryz.c41 (S := S) hS41 (sq.mono hO.ext) hn (bb := true) (by simp [v1])) rfl ?_
      iterate 3 (first | refine WOps.a rfl (by simp only [reduceIte, Nat.reduceEqDiff, Nat.reduceAdd, Bm, t1, hb] <;> rfl) ?_ | refine WOps.vG ((guard_bool rfl rfl (by simp only [reduceIte, Nat.reduceEqDiff, Nat.reduceAdd, Bm, t1, hb] <;> rfl)).trans rfl) (by simp only [reduceIte, Nat.reduceEqDiff, Nat.reduceAdd, Bm, t1, hb] <;> rfl) rfl ?_ | refine WOps.nG (by first | exact (guard_bool rfl rfl (by simp only [reduceIte, Nat.reduceEqDiff, Nat.reduceAdd, Bm, t1, hb] <;> rfl)).trans rfl | exact guard_not rfl rfl (by simp only [reduceIte, Nat.reduceEqDiff, Nat.reduceAdd, Bm, t1, hb] <;> rfl)) rfl ?_)
      by_cases v2 : Inj t.length (entT t)
      rotate_left
      · obtain rfl := no fun v => v2 v.2.2.2.2.1
        refine WOps.cG (by exact (guard_bool rfl rfl (by simp only [reduceIte, Nat.reduceEqDiff, Nat.reduceAdd, Bm, t1] <;> rfl)).trans rfl) (op_call1 (v := tv) (by simp only [reduceIte, Nat.reduceEqDiff, Nat.reduceAdd, Bm, t1] <;> rfl) Tryz.fn42 Tryz.ex42) (Tryz.c42 (S := S) hS42 lowH (sq.mono hO.ext) hn (bb := false) (by simp [v2])) rfl ?_
        ((repeat (first | refine WOps.a rfl (by simp only [reduceIte, Nat.reduceEqDiff, Nat.reduceAdd, Bm, t1, hb] <;> rfl) ?_ | refine WOps.b rfl rfl rfl (by simp only [reduceIte, Nat.reduceEqDiff, Nat.reduceAdd, Bm, t1, hb] <;> rfl) ?_)); refine WOps.nil ?_)
        exact WRun.ret ⟨trivial, rfl, hO.log, (by simp only [reduceIte, Nat.reduceEqDiff, Nat.reduceAdd, Bm, t1] <;> rfl)⟩
      refine WOps.cG (by exact (guard_bool rfl rfl (by simp only [reduceIte, Nat.reduceEqDiff, Nat.reduceAdd, Bm, t1] <;> rfl)).trans rfl) (op_call1 (v := tv) (by simp only [reduceIte, Nat.reduceEqDiff, Nat.reduceAdd, Bm, t1] <;> rfl) Tryz.fn42 Tryz.ex42) (Tryz.c42 (S := S) hS42 lowH (sq.mono hO.ext) hn (bb := true) (by simp [v2])) rfl ?_
      iterate 4 (first | refine WOps.a rfl (by simp only [reduceIte, Nat.reduceEqDiff, Nat.reduceAdd, Bm, t1, hb] <;> rfl) ?_ | refine WOps.vG ((guard_bool rfl rfl (by simp only [reduceIte, Nat.reduceEqDiff, Nat.reduceAdd, Bm, t1, hb] <;> rfl)).trans rfl) (by simp only [reduceIte, Nat.reduceEqDiff, Nat.reduceAdd, Bm, t1, hb] <;> rfl) rfl ?_ | refine WOps.nG (by first | exact (guard_bool rfl rfl (by simp only [reduceIte, Nat.reduceEqDiff, Nat.reduceAdd, Bm, t1, hb] <;> rfl)).trans rfl | exact guard_not rfl rfl (by simp only [reduceIte, Nat.reduceEqDiff, Nat.reduceAdd, Bm, t1, hb] <;> rfl)) rfl ?_)
      refine WOps.cG (by exact (guard_bool rfl rfl (by simp only [reduceIte, Nat.reduceEqDiff, Nat.reduceAdd, Bm, t1] <;> rfl)).trans rfl) (op_call1 (v := tv) (by simp only [reduceIte, Nat.reduceEqDiff, Nat.reduceAdd, Bm, t1] <;> rfl) Tryz.fn43 Tryz.ex43) (Tryz.c43 (S := S) hS43 (sq.mono hO.ext) hn (bb := bb) ?_) rfl ?_
      · rw [hbb]
        exact ⟨fun v => v.2.2.2.2.2, fun v3 => ⟨hpos, hn, hrows, v1, v2, v3⟩⟩
      ((repeat (first | refine WOps.a rfl (by simp only [reduceIte, Nat.reduceEqDiff, Nat.reduceAdd, Bm, t1, hb] <;> rfl) ?_ | refine WOps.b rfl rfl rfl (by simp only [reduceIte, Nat.reduceEqDiff, Nat.reduceAdd, Bm, t1, hb] <;> rfl) ?_)); refine WOps.nil ?_)
      exact WRun.ret ⟨trivial, rfl, hO.log, (by simp only [reduceIte, Nat.reduceEqDiff, Nat.reduceAdd, Bm, t1] <;> rfl)⟩
  obtain ⟨e, T, df, h', h1, h2, h3, h4, h5⟩ := key
  exact WRun.calls1 (r := 2) hS Tryz.fn19 rfl rfl rfl rfl ⟨e, T, df, h', h1, h2, h3, h4, h5⟩
end Go.Proofs
namespace Go.Proofs
open Go.Ev
set_option maxRecDepth 100000
def bytesAV (s : List UInt8) : List AV := s.map fun c : UInt8 => AV.int .u8 (Int.ofNat c.toNat)
theorem bytesAV_length (s : List UInt8) : (bytesAV s).length = s.length := by simp [bytesAV]
theorem Tryz.ty5 : Tryz.ctx.ty.get 5 = some Tryz.y5 := by kernel_rfl
theorem Tryz.word89 : Word Tryz.y89 Tryz.y5 Tryz.ctx.ty 5 := ⟨rfl, Tryz.ty5, rfl, by decide +kernel, by decide +kernel, rfl⟩
theorem Tryz.ext155 : Tryz.ctx.ext.get 155 = some 2 := by kernel_rfl
/-- Block b is a builder that holds s; its blocks lie from lo on. -/
def Bld (lo : Nat) (H : AH) (b : Nat) (s : List UInt8) : Prop :=
  lo ≤ b ∧ b < H.next ∧ ∃ a0 buf, H.t.get b = some (.cells [a0, buf] (fzNew 91)) ∧ (a0 = .nilp ∨ a0 = .ptr b 0) ∧
    ((buf = .nils ∧ s = []) ∨ ∃ c fz, buf = .sliceU c 0 s.length 1 ∧ c ≠ b ∧ lo ≤ c ∧ c < H.next ∧ H.t.get c = some (.cells (bytesAV s) fz) ∧ fz % 65536 = 6 ∧ fz / 65536 ≤ s.length ∧ 0 < s.length)
/-- Where only blocks from lo on have changed. -/
structure Adv (lo : Nat) (H H' : AH) : Prop where
  mark : H'.mark = H.mark
  log : H'.log = H.log
  next : H.next ≤ H'.next
  old : ∀ d, d < lo → H'.t.get d = H.t.get d
  low : (∀ d x, H.t.get d = some x → d < H.next) → ∀ d x, H'.t.get d = some x → d < H'.next
theorem Adv.refl (lo : Nat) (H : AH) : Adv lo H H := ⟨rfl, rfl, Nat.le_refl _, fun _ _ => rfl, fun h => h⟩
theorem Adv.trans {lo : Nat} {H H' H'' : AH} (a : Adv lo H H') (b : Adv lo H' H'') : Adv lo H H'' :=
  ⟨b.mark.trans a.mark, b.log.trans a.log, Nat.le_trans a.next b.next, fun d hd => (b.old d hd).trans (a.old d hd), fun h => b.low (a.low h)⟩
theorem Mine.adv {h H H' : AH} (o : Mine h H) (a : Adv h.next H H') : Mine h H' :=
  ⟨fun c x e => by rw [a.old c (o.low c x e)]; exact o.ext c x e, o.low, a.low o.lowN, Nat.le_trans o.next a.next, a.mark.trans o.mark, a.log.trans o.log⟩
theorem fz92 : fzNew 91 = 92 := by decide +kernel
theorem fz6 : fzNew 5 = 6 := by decide +kernel
/-- copyCheck, the first time. -/
theorem Tryz.c88a {S : Summ} (hS : S.get 88 = none) {H : AH} {b : Nat} {buf : AV} (hbn : b < H.next) (hb : H.t.get b = some (.cells [.nilp, buf] (fzNew 91))) :
    RunCall Tryz.ctx S 88 [.ptr b 0] H ⟨.tup [], H.set b (.cells [.ptr b 0, buf] (fzNew 91))⟩ := by
  refine WRun.callsW hS Tryz.fn88 rfl rfl rfl ?_
  have hb0 : (⟨H.t, H.next, H.next, []⟩ : AH).t.get b = some (.cells [.nilp, buf] (fzNew 91)) := hb
  have g0 : (argsT [.ptr b 0] 0 .leaf).get 0 = some (.ptr b 0) := rfl
  generalize argsT [.ptr b 0] 0 .leaf = T at g0
  have e2 : binV Tryz.ctx.ty .eql 88 true .nilp .nilp = some (.bool true) := by kernel_rfl
  have on : ofValue (.pointer none) = some .nilp := rfl
  have c1 : evConvert Tryz.ctx.ty Tryz.y88 Tryz.y227 (.ptr b 0) ⟨H.t, H.next, H.next, []⟩ = .val (.ptr b 0) ⟨H.t, H.next, H.next, []⟩ := conv_to (t := 91) (at' := Tryz.y91) rfl rfl Tryz.ty91 (by decide +kernel) hb0 (by simp)
  have c2 : evConvert Tryz.ctx.ty Tryz.y227 Tryz.y88 (.ptr b 0) ⟨H.t, H.next, H.next, []⟩ = .val (.ptr b 0) ⟨H.t, H.next, H.next, []⟩ := conv_of (u := 91) (au := Tryz.y91) rfl rfl Tryz.ty91 (by decide +kernel) hb0 (by rw [fz92]) (by show 2 ≤ 2; exact Nat.le_refl _)
  have st : evStore Tryz.y88 (.ptr b 0) (.ptr b 0) ⟨H.t, H.next, H.next, []⟩ = .skip ((⟨H.t, H.next, H.next, []⟩ : AH).set b (.cells [.ptr b 0, buf] (fzNew 91))) := store_word (c := [.nilp, buf]) rfl rfl rfl hb0 (by rw [fz92]; decide) (by simp)
  (first | refine WRun.seq (WRun.region ?_) | refine WRun.seq (WRun.seq (WRun.region ?_)) | refine WRun.region ?_ | refine WRun.seq (WRun.seq (WRun.seq (WRun.region ?_)))); ((repeat (first | refine WOps.a rfl (by simp only [reduceIte, Nat.reduceEqDiff, Nat.reduceAdd, Bm, g0, hb, e2, on] <;> rfl) ?_ | refine WOps.b rfl rfl rfl (by simp only [reduceIte, Nat.reduceEqDiff, Nat.reduceAdd, Bm, g0, hb, e2, on] <;> rfl) ?_)); refine WOps.nil ?_)
  (first | refine WRun.condT (by simp only [reduceIte, Nat.reduceEqDiff, Nat.reduceAdd, Bm, g0] <;> rfl) ?_ | refine WRun.seq (WRun.condT (by simp only [reduceIte, Nat.reduceEqDiff, Nat.reduceAdd, Bm, g0] <;> rfl) ?_))
  refine WRun.region ?_
  iterate 2 (first | refine WOps.a rfl (by simp only [reduceIte, Nat.reduceEqDiff, Nat.reduceAdd, Bm, g0] <;> rfl) ?_ | refine WOps.vG ((guard_bool rfl rfl (by simp only [reduceIte, Nat.reduceEqDiff, Nat.reduceAdd, Bm, g0] <;> rfl)).trans rfl) (by simp only [reduceIte, Nat.reduceEqDiff, Nat.reduceAdd, Bm, g0] <;> rfl) rfl ?_ | refine WOps.nG (by first | exact (guard_bool rfl rfl (by simp only [reduceIte, Nat.reduceEqDiff, Nat.reduceAdd, Bm, g0] <;> rfl)).trans rfl | exact guard_not rfl rfl (by simp only [reduceIte, Nat.reduceEqDiff, Nat.reduceAdd, Bm, g0] <;> rfl)) rfl ?_)
  refine WOps.vN (by simp only [reduceIte, Nat.reduceEqDiff, Nat.reduceAdd, Bm, g0, op_convertE, c1] <;> rfl) rfl ?_
  refine WOps.vN ((op_ext1 (v := .ptr b 0) (by simp only [reduceIte, Nat.reduceEqDiff, Nat.reduceAdd, Bm, g0] <;> rfl) Tryz.ext155).trans rfl) rfl ?_
  refine WOps.vN (by simp only [reduceIte, Nat.reduceEqDiff, Nat.reduceAdd, Bm, g0, op_convertE, c2] <;> rfl) rfl ?_
  iterate 2 (first | refine WOps.a rfl (by simp only [reduceIte, Nat.reduceEqDiff, Nat.reduceAdd, Bm, g0] <;> rfl) ?_ | refine WOps.vG ((guard_bool rfl rfl (by simp only [reduceIte, Nat.reduceEqDiff, Nat.reduceAdd, Bm, g0] <;> rfl)).trans rfl) (by simp only [reduceIte, Nat.reduceEqDiff, Nat.reduceAdd, Bm, g0] <;> rfl) rfl ?_ | refine WOps.nG (by first | exact (guard_bool rfl rfl (by simp only [reduceIte, Nat.reduceEqDiff, Nat.reduceAdd, Bm, g0] <;> rfl)).trans rfl | exact guard_not rfl rfl (by simp only [reduceIte, Nat.reduceEqDiff, Nat.reduceAdd, Bm, g0] <;> rfl)) rfl ?_)
  refine WOps.eN (by simp only [reduceIte, Nat.reduceEqDiff, Nat.reduceAdd, Bm, g0, op_storeE, st] <;> rfl) ?_
  refine WOps.nil ?_
  refine ⟨atEnd0 trivial rfl, rfl, rfl, ?_, ?_⟩
  · rw [log_setE]
    show logged H.next b [] ≠ []
    intro e
    have : b ∈ logged H.next b [] := mem_logged.2 (.inr ⟨rfl, hbn⟩)
    rw [e] at this
    simp at this
  · rw [log_setE, log_setE]
    show mergeLog H.mark H.log (logged H.next b []) = logged H.mark b H.log
    have : logged H.next b [] = [b] := by
      unfold logged
      rw [blt_iff.2 hbn]
    rw [this]
    rfl
theorem bin_ptr_nil {t : TypeId} {k : Bool} {a : ATy} {e b o : Nat} (ht : Tryz.ctx.ty.get t = some a) (ha : a.d = .ptr e) : binV Tryz.ctx.ty .eql t k (.ptr b o) .nilp = some (.bool false) := by
  show (match evBin Tryz.ctx.ty .eql t (.ptr b o) .nilp with | some v => some v | none => _) = _
  have : evBin Tryz.ctx.ty .eql t (.ptr b o) .nilp = some (.bool false) := by
    show (match Tryz.ctx.ty.get t with | some a => (match evEq a.d (.ptr b o) .nilp with | some b => mkB b | none => none) | none => none) = _
    rw [ht]
    simp only [ha]
    rfl
  rw [this]
theorem bin_ptr_same {t : TypeId} {k : Bool} {a ae : ATy} {e b o : Nat} (ht : Tryz.ctx.ty.get t = some a) (ha : a.d = .ptr e) (he : Tryz.ctx.ty.get e = some ae) : binV Tryz.ctx.ty .neq t k (.ptr b o) (.ptr b o) = some (.bool false) := by
  show (match evBin Tryz.ctx.ty .neq t (.ptr b o) (.ptr b o) with | some v => some v | none => samePtr Tryz.ctx.ty .neq t (.ptr b o) (.ptr b o)) = _
  have : evBin Tryz.ctx.ty .neq t (.ptr b o) (.ptr b o) = none := by
    show (match Tryz.ctx.ty.get t with | some a => (match evEq a.d (.ptr b o) (.ptr b o) with | some b => mkB (!b) | none => none) | none => none) = _
    rw [ht]
    simp only [ha]
    rfl
  rw [this]
  show samePtr Tryz.ctx.ty .neq t (.ptr b o) (.ptr b o) = _
  unfold samePtr
  simp only [ht, ha, he]
  have : (Nat.beq b b && Nat.beq o o) = true := by simp
  rw [this]
  rfl
/-- copyCheck, later. -/
theorem Tryz.c88b {S : Summ} (hS : S.get 88 = none) {H : AH} {b : Nat} {buf : AV} {fz : Nat} (hb : H.t.get b = some (.cells [.ptr b 0, buf] fz)) : RunCall Tryz.ctx S 88 [.ptr b 0] H ⟨.tup [], H⟩ := by
  refine WRun.calls hS Tryz.fn88 rfl rfl rfl ?_
  have g0 : (argsT [.ptr b 0] 0 .leaf).get 0 = some (.ptr b 0) := rfl
  generalize argsT [.ptr b 0] 0 .leaf = T at g0
  have e2 : ∀ k, binV Tryz.ctx.ty .eql 88 k (.ptr b 0) .nilp = some (.bool false) := fun k => bin_ptr_nil Tryz.ty88 rfl
  have e3 : ∀ k, binV Tryz.ctx.ty .neq 88 k (.ptr b 0) (.ptr b 0) = some (.bool false) := fun k => bin_ptr_same Tryz.ty88 rfl Tryz.ty91
  have on : ofValue (.pointer none) = some .nilp := rfl
  (first | refine WRun.seq (WRun.region ?_) | refine WRun.seq (WRun.seq (WRun.region ?_)) | refine WRun.region ?_ | refine WRun.seq (WRun.seq (WRun.seq (WRun.region ?_)))); ((repeat (first | refine WOps.a rfl (by simp only [reduceIte, Nat.reduceEqDiff, Nat.reduceAdd, Bm, g0, hb, on, e2] <;> rfl) ?_ | refine WOps.b rfl rfl rfl (by simp only [reduceIte, Nat.reduceEqDiff, Nat.reduceAdd, Bm, g0, hb, on, e2] <;> rfl) ?_)); refine WOps.nil ?_)
  (first | refine WRun.condF (by simp only [reduceIte, Nat.reduceEqDiff, Nat.reduceAdd, Bm, g0] <;> rfl) ?_ | refine WRun.seq (WRun.condF (by simp only [reduceIte, Nat.reduceEqDiff, Nat.reduceAdd, Bm, g0] <;> rfl) ?_))
  (first | refine WRun.seq (WRun.region ?_) | refine WRun.seq (WRun.seq (WRun.region ?_)) | refine WRun.region ?_ | refine WRun.seq (WRun.seq (WRun.seq (WRun.region ?_)))); ((repeat (first | refine WOps.a rfl (by simp only [reduceIte, Nat.reduceEqDiff, Nat.reduceAdd, Bm, g0, hb, e3] <;> rfl) ?_ | refine WOps.b rfl rfl rfl (by simp only [reduceIte, Nat.reduceEqDiff, Nat.reduceAdd, Bm, g0, hb, e3] <;> rfl) ?_)); refine WOps.nil ?_)
  (first | refine WRun.condF (by simp only [reduceIte, Nat.reduceEqDiff, Nat.reduceAdd, Bm, g0] <;> rfl) ?_ | refine WRun.seq (WRun.condF (by simp only [reduceIte, Nat.reduceEqDiff, Nat.reduceAdd, Bm, g0] <;> rfl) ?_))
  exact WRun.skip ⟨_, _, _, atEnd0 trivial rfl⟩
end Go.Proofs
namespace Go.Proofs
open Go.Ev
set_option maxRecDepth 100000
theorem Tryz.c88 {S : Summ} (hS : S.get 88 = none) {H : AH} {b : Nat} {a0 buf : AV} (hbn : b < H.next) (hb : H.t.get b = some (.cells [a0, buf] (fzNew 91))) (ha : a0 = .nilp ∨ a0 = .ptr b 0) :
    ∃ H1, RunCall Tryz.ctx S 88 [.ptr b 0] H ⟨.tup [], H1⟩ ∧ H1.t.get b = some (.cells [.ptr b 0, buf] (fzNew 91)) ∧ H1.next = H.next ∧ H1.mark = H.mark ∧ (∀ d, d ≠ b → H1.t.get d = H.t.get d) ∧ ∀ d ∈ H1.log, d ∈ H.log ∨ d = b := by
  rcases ha with rfl | rfl
  · refine ⟨_, Tryz.c88a hS hbn hb, by rw [get_set, if_pos rfl], rfl, rfl, fun d hd => by rw [get_set, if_neg hd], fun d hd => ?_⟩
    rw [log_setE] at hd
    exact (mem_logged.1 hd).imp id (·.1)
  · exact ⟨H, Tryz.c88b hS hb, hb, rfl, rfl, fun _ _ => rfl, fun d hd => .inl hd⟩
/-- What an append of bytes to the buffer, stored back, leaves. -/
theorem bld_app {lo : Nat} {H H2 : AH} {b : Nat} {s ys : List UInt8} (hlo : lo ≤ b) (hbn : b < H.next) (hm : H.mark ≤ lo) {buf : AV} (hb : H2.t.get b = some (.cells [.ptr b 0, buf] (fzNew 91))) (hn : H.next ≤ H2.next) (hmk : H2.mark = H.next)
    (hold : ∀ d, d ≠ b → d < H.next → H2.t.get d = H.t.get d) (hlow : (∀ d x, H.t.get d = some x → d < H.next) → ∀ d x, H2.t.get d = some x → d < H2.next) (hlog : ∀ d ∈ H2.log, d = b)
    (hbuf : (buf = .nils ∧ s = []) ∨ ∃ c fz, buf = .sliceU c 0 s.length 1 ∧ c ≠ b ∧ lo ≤ c ∧ c < H.next ∧ H.t.get c = some (.cells (bytesAV s) fz) ∧ fz % 65536 = 6 ∧ fz / 65536 ≤ s.length ∧ 0 < s.length) (hy : 0 < ys.length) (hbig : s.length + ys.length ≤ 16777216)
    {x : AV} (hk : lenOf x = some ys.length) (hx : elems H2 1 ys.length x = some (bytesAV ys)) :
    ∃ nb H3, evAppend Tryz.ctx.ty Tryz.y89 buf x H2 = .val nb H3 ∧ ∃ H4, evStore Tryz.y89 (.ptr b 1) nb H3 = .skip H4 ∧ H4.log ≠ [] ∧ (∀ d ∈ H4.log, lo ≤ d) ∧
      Bld lo ⟨H4.t, H4.next, H.mark, H.log⟩ b (s ++ ys) ∧ Adv lo H ⟨H4.t, H4.next, H.mark, H.log⟩ ∧ H3.t.get b = some (.cells [.ptr b 0, buf] (fzNew 91)) := by
  have hbytes : bytesAV (s ++ ys) = bytesAV s ++ bytesAV ys := by simp [bytesAV]
  have store : ∀ (nb : AV) (H3 : AH), nb.cells = [nb] → nb.one = true → H3.t.get b = some (.cells [.ptr b 0, buf] (fzNew 91)) → evStore Tryz.y89 (.ptr b 1) nb H3 = .skip (H3.set b (.cells [.ptr b 0, nb] (fzNew 91))) := fun nb H3 h1 h2 h3 =>
    store_word (c := [.ptr b 0, buf]) rfl h1 h2 h3 (by rw [fz92]; decide) (by simp)
  have nel : ∀ l : List Nat, logged H.next b l ≠ [] := fun l e => by
    have : b ∈ logged H.next b l := mem_logged.2 (.inr ⟨rfl, hbn⟩)
    rw [e] at this
    simp at this
  rcases hbuf with ⟨rfl, rfl⟩ | ⟨c, fz, rfl, hcb, hloc, hcn, hc, hfz, hfl⟩
  · have e1 := append_nils (h := H2) Tryz.word89 hk hx (bytesAV_length ys) hy (by simpa using hbig)
    have hne : b ≠ H2.next := by omega
    have h3 : (H2.add (.cells (bytesAV ys) (fzNew 5))).t.get b = some (.cells [.ptr b 0, .nils] (fzNew 91)) := by rw [get_add, if_neg hne]; exact hb
    refine ⟨_, _, e1, _, store _ _ rfl rfl h3, ?_, fun d hd => ?_, ?_, ?_, h3⟩
    · rw [log_setE, mark_add, hmk]; exact nel _
    · rw [log_setE, log_add, mark_add] at hd
      rcases mem_logged.1 hd with q | q
      · rw [hlog d q]; exact hlo
      · rw [q.1]; exact hlo
    · refine ⟨hlo, by show b < H2.next + 1; omega, .ptr b 0, _, by show ((H2.add _).set b _).t.get b = _; rw [get_set, if_pos rfl], .inr rfl, .inr ⟨H2.next, fzNew 5, by simp, fun e => hne e.symm, by omega, by show H2.next < H2.next + 1; omega, ?_, by rw [fz6], by rw [fz6]; omega, by simpa using hy⟩⟩
      show ((H2.add _).set b _).t.get H2.next = _
      rw [get_set, if_neg (fun e => hne e.symm), get_add_self]
      rfl
    · refine ⟨rfl, rfl, by show H.next ≤ H2.next + 1; omega, fun d hd => ?_, fun hh d x hx => ?_⟩
      · show ((H2.add _).set b _).t.get d = _
        rw [get_set, if_neg (by omega), get_add, if_neg (by omega), hold d (by omega) (by omega)]
      · have hx : ((H2.add _).set b _).t.get d = some x := hx
        rw [get_set] at hx
        show d < H2.next + 1
        split at hx
        · omega
        · rw [get_add] at hx
          split at hx
          · omega
          · have := hlow hh d x hx; omega
  · have hc2 : H2.t.get c = some (.cells (bytesAV s) fz) := by rw [hold c hcb hcn]; exact hc
    have hone : allOne (bytesAV ys) = true := by
      rw [allOne_iff]
      intro v hv
      simp only [bytesAV, List.mem_map] at hv
      obtain ⟨q, _, rfl⟩ := hv
      rfl
    have e1 := append_open (h := H2) Tryz.word89 hk hx (bytesAV_length ys) hy hbig hc2 (bytesAV_length s) hfl.1 hone
    have hne : b ≠ H2.next := by omega
    have h3 : ((H2.del c).add (.cells (bytesAV s ++ bytesAV ys) (fzMove fz 0 5))).t.get b = some (.cells [.ptr b 0, .sliceU c 0 s.length 1] (fzNew 91)) := by
      rw [get_add, if_neg (by rw [next_del]; exact hne), get_del, if_neg (fun e => hcb e.symm)]; exact hb
    refine ⟨_, _, e1, _, store _ _ rfl rfl h3, ?_, fun d hd => ?_, ?_, ?_, h3⟩
    · rw [log_setE, mark_add, mark_del, hmk]; exact nel _
    · rw [log_setE, log_add, mark_add, log_del] at hd
      rcases mem_logged.1 hd with q | q
      · rcases mem_logged.1 q with q | q
        · rw [hlog d q]; exact hlo
        · rw [q.1]; exact hloc
      · rw [q.1]; exact hlo
    · refine ⟨hlo, by show b < H2.next + 1; omega, .ptr b 0, _, by show (((H2.del c).add _).set b _).t.get b = _; rw [get_set, if_pos rfl], .inr rfl, .inr ⟨H2.next, fzMove fz 0 5, ?_, fun e => hne e.symm, by omega, by show H2.next < H2.next + 1; omega, ?_, fzMove_tag (by decide) hfz, ?_, by rw [List.length_append]; omega⟩⟩
      · rw [List.length_append]
      · show (((H2.del c).add _).set b _).t.get H2.next = _
        rw [get_set, if_neg (fun e => hne e.symm), hbytes]
        exact get_add_self
      · have := hfl.1
        rw [fzMove_div, List.length_append]; omega
    · refine ⟨rfl, rfl, by show H.next ≤ H2.next + 1; omega, fun d hd => ?_, fun hh d x hx => ?_⟩
      · show (((H2.del c).add _).set b _).t.get d = _
        rw [get_set, if_neg (by omega), get_add, if_neg (by rw [next_del]; omega), get_del, if_neg (by omega), hold d (by omega) (by omega)]
      · have hx : (((H2.del c).add _).set b _).t.get d = some x := hx
        rw [get_set] at hx
        show d < H2.next + 1
        split at hx
        · omega
        · rw [get_add] at hx
          split at hx
          · rename_i e; rw [next_del] at e; omega
          · rw [get_del] at hx
            split at hx
            · cases hx
            · have := hlow hh d x hx; omega
end Go.Proofs
namespace Go.Proofs
open Go.Ev
set_option maxRecDepth 100000
theorem Tryz.fresh_facts {lo : Nat} {H : AH} {b : Nat} {s : List UInt8} (B : Bld lo H b s) {S : Summ} (hS : S.get 88 = none) :
    ∃ H1 buf, RunCall Tryz.ctx S 88 [.ptr b 0] ⟨H.t, H.next, H.next, []⟩ ⟨.tup [], H1⟩ ∧ H1.t.get b = some (.cells [.ptr b 0, buf] (fzNew 91)) ∧ H1.next = H.next ∧ H1.mark = H.next ∧ (∀ d, d ≠ b → H1.t.get d = H.t.get d) ∧ (∀ d ∈ H1.log, d = b) ∧
      ((buf = .nils ∧ s = []) ∨ ∃ c fz, buf = .sliceU c 0 s.length 1 ∧ c ≠ b ∧ lo ≤ c ∧ c < H.next ∧ H.t.get c = some (.cells (bytesAV s) fz) ∧ fz % 65536 = 6 ∧ fz / 65536 ≤ s.length ∧ 0 < s.length) := by
  obtain ⟨hlo, hbn, a0, buf, hb, ha, hbuf⟩ := B
  obtain ⟨H1, h1, h2, h3, h4, h5, h6⟩ := Tryz.c88 (S := S) (H := ⟨H.t, H.next, H.next, []⟩) hS hbn hb ha
  exact ⟨H1, buf, h1, h2, h3, h4, h5, fun d hd => (h6 d hd).resolve_left (by simp), hbuf⟩
theorem get_old {H H1 : AH} {b d : Nat} {x : ABlock} (hold : ∀ d, d ≠ b → H1.t.get d = H.t.get d) (hb : b < H.next) (hl : ∀ d x, H.t.get d = some x → d < H.next) (h : H1.t.get d = some x) : d < H.next := by
  by_cases e : d = b
  · omega
  · rw [hold d e] at h; exact hl d x h
/-- WriteString. -/
theorem Tryz.c50 {S : Summ} (hS : S.get 50 = none) (hS88 : S.get 88 = none) {lo : Nat} {H : AH} {b : Nat} {s : List UInt8} (B : Bld lo H b s) (hm : H.mark ≤ lo) {ys : List UInt8} (hy : 0 < ys.length) (hbig : s.length + ys.length ≤ 16777216) :
    ∃ H', RunCall Tryz.ctx S 50 [.ptr b 0, .str ys] H ⟨.tup [.int .i64 ys.length, .nili], H'⟩ ∧ Bld lo H' b (s ++ ys) ∧ Adv lo H H' := by
  have hlo := B.1
  have hbn := B.2.1
  obtain ⟨H1, buf, h1, h2, h3, h4, h5, h6, hbuf⟩ := Tryz.fresh_facts B hS88
  obtain ⟨nb, H3, e1, H4, e2, e3, e4, e5, e6, e7⟩ := bld_app (x := .str ys) hlo hbn hm h2 (by omega) h4 (fun d hd _ => h5 d hd) (fun hh d x hx => by rw [h3]; exact get_old h5 hbn hh hx) h6 hbuf hy hbig lenOf_str elems_str
  refine ⟨⟨H4.t, H4.next, H.mark, H.log⟩, WRun.callsW hS Tryz.fn50 rfl rfl rfl ?_, e5, e6⟩
  have g0 : (argsT [.ptr b 0, .str ys] 0 .leaf).get 0 = some (.ptr b 0) := rfl
  have g1 : (argsT [.ptr b 0, .str ys] 0 .leaf).get 1 = some (.str ys) := rfl
  generalize argsT [.ptr b 0, .str ys] 0 .leaf = T at g0 g1
  (first | refine WRun.seq (WRun.region ?_) | refine WRun.seq (WRun.seq (WRun.region ?_)) | refine WRun.region ?_ | refine WRun.seq (WRun.seq (WRun.seq (WRun.region ?_)))); ((repeat (first | refine WOps.a rfl (by simp only [reduceIte, Nat.reduceEqDiff, Nat.reduceAdd, Bm, g0] <;> rfl) ?_ | refine WOps.b rfl rfl rfl (by simp only [reduceIte, Nat.reduceEqDiff, Nat.reduceAdd, Bm, g0] <;> rfl) ?_)); refine WOps.nil ?_)
  refine WRun.seq (WRun.region ?_)
  (first | refine WOps.a rfl (by simp only [reduceIte, Nat.reduceEqDiff, Nat.reduceAdd, Bm, g0] <;> rfl) ?_ | refine WOps.vG ((guard_bool rfl rfl (by simp only [reduceIte, Nat.reduceEqDiff, Nat.reduceAdd, Bm, g0] <;> rfl)).trans rfl) (by simp only [reduceIte, Nat.reduceEqDiff, Nat.reduceAdd, Bm, g0] <;> rfl) rfl ?_ | refine WOps.nG (by first | exact (guard_bool rfl rfl (by simp only [reduceIte, Nat.reduceEqDiff, Nat.reduceAdd, Bm, g0] <;> rfl)).trans rfl | exact guard_not rfl rfl (by simp only [reduceIte, Nat.reduceEqDiff, Nat.reduceAdd, Bm, g0] <;> rfl)) rfl ?_)
  refine WOps.cN (op_call1 (v := .ptr b 0) (by simp only [reduceIte, Nat.reduceEqDiff, Nat.reduceAdd, Bm, g0] <;> rfl) Tryz.fn88 Tryz.ex88) h1 rfl ?_
  refine WOps.nil ?_
  refine WRun.seq (WRun.region ?_)
  iterate 6 (first | refine WOps.a rfl (by simp only [reduceIte, Nat.reduceEqDiff, Nat.reduceAdd, Bm, g0, g1, h2] <;> rfl) ?_ | refine WOps.vG ((guard_bool rfl rfl (by simp only [reduceIte, Nat.reduceEqDiff, Nat.reduceAdd, Bm, g0, g1, h2] <;> rfl)).trans rfl) (by simp only [reduceIte, Nat.reduceEqDiff, Nat.reduceAdd, Bm, g0, g1, h2] <;> rfl) rfl ?_ | refine WOps.nG (by first | exact (guard_bool rfl rfl (by simp only [reduceIte, Nat.reduceEqDiff, Nat.reduceAdd, Bm, g0, g1, h2] <;> rfl)).trans rfl | exact guard_not rfl rfl (by simp only [reduceIte, Nat.reduceEqDiff, Nat.reduceAdd, Bm, g0, g1, h2] <;> rfl)) rfl ?_)
  refine WOps.vN ((op_append (u := buf) (v := .str ys) (a := Tryz.y89) (a2 := Tryz.y9) (by simp only [reduceIte, Nat.reduceEqDiff, Nat.reduceAdd, Bm, g0] <;> rfl) (by simp only [reduceIte, Nat.reduceEqDiff, Nat.reduceAdd, Bm, g0] <;> rfl) Tryz.ty89 Tryz.ty9 rfl).trans e1) rfl ?_
  iterate 2 (first | refine WOps.a rfl (by simp only [reduceIte, Nat.reduceEqDiff, Nat.reduceAdd, Bm, g0] <;> rfl) ?_ | refine WOps.vG ((guard_bool rfl rfl (by simp only [reduceIte, Nat.reduceEqDiff, Nat.reduceAdd, Bm, g0] <;> rfl)).trans rfl) (by simp only [reduceIte, Nat.reduceEqDiff, Nat.reduceAdd, Bm, g0] <;> rfl) rfl ?_ | refine WOps.nG (by first | exact (guard_bool rfl rfl (by simp only [reduceIte, Nat.reduceEqDiff, Nat.reduceAdd, Bm, g0] <;> rfl)).trans rfl | exact guard_not rfl rfl (by simp only [reduceIte, Nat.reduceEqDiff, Nat.reduceAdd, Bm, g0] <;> rfl)) rfl ?_)
  refine WOps.eN (by simp only [reduceIte, Nat.reduceEqDiff, Nat.reduceAdd, Bm, g0, op_storeE, e2] <;> rfl) ?_
  refine WOps.nil ?_
  have ls : ∀ h' : AH, evLen Tryz.ctx.ty Tryz.y9 (.str ys) h' = some (.int .i64 ys.length) := fun h' => len_strE rfl
  (first | refine WRun.seq (WRun.region ?_) | refine WRun.seq (WRun.seq (WRun.region ?_)) | refine WRun.region ?_ | refine WRun.seq (WRun.seq (WRun.seq (WRun.region ?_)))); ((repeat (first | refine WOps.a rfl (by simp only [reduceIte, Nat.reduceEqDiff, Nat.reduceAdd, Bm, g1, ls] <;> rfl) ?_ | refine WOps.b rfl rfl rfl (by simp only [reduceIte, Nat.reduceEqDiff, Nat.reduceAdd, Bm, g1, ls] <;> rfl) ?_)); refine WOps.nil ?_)
  exact WRun.ret ⟨atEnd2 (r := 4) (q := 5) trivial rfl (by simp only [reduceIte, Nat.reduceEqDiff, Nat.reduceAdd, Bm, g0] <;> rfl) (by simp only [reduceIte, Nat.reduceEqDiff, Nat.reduceAdd, Bm, g0] <;> rfl), rfl, rfl, e3, mergeLog_none fun d hd => Nat.le_trans hm (e4 d hd)⟩
/-- WriteString of nothing, at a builder that has been written. -/
theorem elems_one {H : AH} {x : UInt8} : elems (H.add (.cells [.int .u8 x.toNat] 0)) 1 1 (.slice H.next 0 1 1) = some (bytesAV [x]) := by
  show (match known (H.add (.cells [.int .u8 x.toNat] 0)) H.next with | some (c, _) => Go.Ev.sub c 0 (Nat.mul 1 1) | none => none) = _
  have : known (H.add (.cells [.int .u8 x.toNat] 0)) H.next = some ([.int .u8 x.toNat], 0) := by unfold known; rw [get_add_self]
  rw [this]
  rfl
/-- WriteByte. -/
theorem Tryz.c77 {S : Summ} (hS : S.get 77 = none) (hS88 : S.get 88 = none) {lo : Nat} {H : AH} {b : Nat} {s : List UInt8} (B : Bld lo H b s) (hm : H.mark ≤ lo) {x : UInt8} (hbig : s.length + 1 ≤ 16777216) :
    ∃ H', RunCall Tryz.ctx S 77 [.ptr b 0, .int .u8 x.toNat] H ⟨.nili, H'⟩ ∧ Bld lo H' b (s ++ [x]) ∧ Adv lo H H' := by
  have hlo := B.1
  have hbn := B.2.1
  obtain ⟨H1, buf, h1, h2, h3, h4, h5, h6, hbuf⟩ := Tryz.fresh_facts B hS88
  have h2' : (H1.add (.cells [.int .u8 x.toNat] 0)).t.get b = some (.cells [.ptr b 0, buf] (fzNew 91)) := by rw [get_add, if_neg (by omega)]; exact h2
  obtain ⟨nb, H3, e1, H4, e2, e3, e4, e5, e6, e7⟩ := bld_app (H2 := H1.add (.cells [.int .u8 x.toNat] 0)) (x := .slice H1.next 0 1 1) (ys := [x]) hlo hbn hm h2' (by rw [next_add]; omega) (by rw [mark_add]; exact h4) (fun d hd hn => by rw [get_add, if_neg (by omega)]; exact h5 d hd)
    (fun hh d y hy => by
      rw [get_add] at hy
      rw [next_add]
      split at hy
      · omega
      · have := get_old h5 hbn hh hy; omega) (by rw [log_add]; exact h6) hbuf (by simp) (by simpa using hbig) rfl elems_one
  refine ⟨⟨H4.t, H4.next, H.mark, H.log⟩, WRun.callsW hS Tryz.fn77 rfl rfl rfl ?_, e5, e6⟩
  have g0 : (argsT [.ptr b 0, .int .u8 x.toNat] 0 .leaf).get 0 = some (.ptr b 0) := rfl
  have g1 : (argsT [.ptr b 0, .int .u8 x.toNat] 0 .leaf).get 1 = some (.int .u8 x.toNat) := rfl
  generalize argsT [.ptr b 0, .int .u8 x.toNat] 0 .leaf = T at g0 g1
  (first | refine WRun.seq (WRun.region ?_) | refine WRun.seq (WRun.seq (WRun.region ?_)) | refine WRun.region ?_ | refine WRun.seq (WRun.seq (WRun.seq (WRun.region ?_)))); ((repeat (first | refine WOps.a rfl (by simp only [reduceIte, Nat.reduceEqDiff, Nat.reduceAdd, Bm, g0] <;> rfl) ?_ | refine WOps.b rfl rfl rfl (by simp only [reduceIte, Nat.reduceEqDiff, Nat.reduceAdd, Bm, g0] <;> rfl) ?_)); refine WOps.nil ?_)
  refine WRun.seq (WRun.region ?_)
  (first | refine WOps.a rfl (by simp only [reduceIte, Nat.reduceEqDiff, Nat.reduceAdd, Bm, g0] <;> rfl) ?_ | refine WOps.vG ((guard_bool rfl rfl (by simp only [reduceIte, Nat.reduceEqDiff, Nat.reduceAdd, Bm, g0] <;> rfl)).trans rfl) (by simp only [reduceIte, Nat.reduceEqDiff, Nat.reduceAdd, Bm, g0] <;> rfl) rfl ?_ | refine WOps.nG (by first | exact (guard_bool rfl rfl (by simp only [reduceIte, Nat.reduceEqDiff, Nat.reduceAdd, Bm, g0] <;> rfl)).trans rfl | exact guard_not rfl rfl (by simp only [reduceIte, Nat.reduceEqDiff, Nat.reduceAdd, Bm, g0] <;> rfl)) rfl ?_)
  refine WOps.cN (op_call1 (v := .ptr b 0) (by simp only [reduceIte, Nat.reduceEqDiff, Nat.reduceAdd, Bm, g0] <;> rfl) Tryz.fn88 Tryz.ex88) h1 rfl ?_
  refine WOps.nil ?_
  refine WRun.seq (WRun.region ?_)
  iterate 6 (first | refine WOps.a rfl (by simp only [reduceIte, Nat.reduceEqDiff, Nat.reduceAdd, Bm, g0, g1, h2] <;> rfl) ?_ | refine WOps.vG ((guard_bool rfl rfl (by simp only [reduceIte, Nat.reduceEqDiff, Nat.reduceAdd, Bm, g0, g1, h2] <;> rfl)).trans rfl) (by simp only [reduceIte, Nat.reduceEqDiff, Nat.reduceAdd, Bm, g0, g1, h2] <;> rfl) rfl ?_ | refine WOps.nG (by first | exact (guard_bool rfl rfl (by simp only [reduceIte, Nat.reduceEqDiff, Nat.reduceAdd, Bm, g0, g1, h2] <;> rfl)).trans rfl | exact guard_not rfl rfl (by simp only [reduceIte, Nat.reduceEqDiff, Nat.reduceAdd, Bm, g0, g1, h2] <;> rfl)) rfl ?_)
  refine WOps.vN (op_buildSlice1 (v := .int .u8 x.toNat) (a := Tryz.y89) (ae := Tryz.y5) (e := 5) rfl (by simp only [reduceIte, Nat.reduceEqDiff, Nat.reduceAdd, Bm, g1] <;> rfl) Tryz.ty89 Tryz.word89 rfl rfl) rfl ?_
  refine WOps.vN ((op_append (u := buf) (v := .slice H1.next 0 1 1) (a := Tryz.y89) (a2 := Tryz.y89) (by simp only [reduceIte, Nat.reduceEqDiff, Nat.reduceAdd, Bm, g0] <;> rfl) (by simp only [reduceIte, Nat.reduceEqDiff, Nat.reduceAdd, Bm, g0] <;> rfl) Tryz.ty89 Tryz.ty89 rfl).trans e1) rfl ?_
  iterate 2 (first | refine WOps.a rfl (by simp only [reduceIte, Nat.reduceEqDiff, Nat.reduceAdd, Bm, g0] <;> rfl) ?_ | refine WOps.vG ((guard_bool rfl rfl (by simp only [reduceIte, Nat.reduceEqDiff, Nat.reduceAdd, Bm, g0] <;> rfl)).trans rfl) (by simp only [reduceIte, Nat.reduceEqDiff, Nat.reduceAdd, Bm, g0] <;> rfl) rfl ?_ | refine WOps.nG (by first | exact (guard_bool rfl rfl (by simp only [reduceIte, Nat.reduceEqDiff, Nat.reduceAdd, Bm, g0] <;> rfl)).trans rfl | exact guard_not rfl rfl (by simp only [reduceIte, Nat.reduceEqDiff, Nat.reduceAdd, Bm, g0] <;> rfl)) rfl ?_)
  refine WOps.eN (by simp only [reduceIte, Nat.reduceEqDiff, Nat.reduceAdd, Bm, g0, op_storeE, e2] <;> rfl) ?_
  refine WOps.nil ?_
  (first | refine WRun.seq (WRun.region ?_) | refine WRun.seq (WRun.seq (WRun.region ?_)) | refine WRun.region ?_ | refine WRun.seq (WRun.seq (WRun.seq (WRun.region ?_)))); ((repeat (first | refine WOps.a rfl (by simp only [reduceIte, Nat.reduceEqDiff, Nat.reduceAdd, Bm, g1] <;> rfl) ?_ | refine WOps.b rfl rfl rfl (by simp only [reduceIte, Nat.reduceEqDiff, Nat.reduceAdd, Bm, g1] <;> rfl) ?_)); refine WOps.nil ?_)
  exact WRun.ret ⟨atEnd1 (r := 4) trivial rfl (by simp only [reduceIte, Nat.reduceEqDiff, Nat.reduceAdd, Bm, g0] <;> rfl), rfl, rfl, e3, mergeLog_none fun d hd => Nat.le_trans hm (e4 d hd)⟩
end Go.Proofs
namespace Go.Proofs
open Go.Ev
set_option maxRecDepth 100000
theorem toBytes_bytesAV : ∀ s : List UInt8, toBytes (bytesAV s) = some s
  | [] => rfl
  | x :: s => by
    show (match toBytes (bytesAV s) with | some r => some (UInt8.ofNat x.toNat :: r) | none => none) = _
    rw [toBytes_bytesAV s]
    simp
theorem op_sliceData {C : Ctx} {T : PT AV} {h : AH} {x : Operand} {t : TypeId} {v : AV} {a : ATy} (hx : evOpd C.G T x = some v) (ht : C.ty.get t = some a) : evOp (.call { callee := .builtin .unsafeSliceData, args := #[x], argTypes := #[t] }) C T h = evSliceData C.ty a v h := by
  show withL (oe none (evOpd C.G T x) fun v => oe none (some []) fun vs => some (v :: vs)) (fun args => withT C.ty t fun a => evBuiltin .unsafeSliceData C.ty a [] args h) = _
  rw [hx]
  show withT C.ty t (fun a => evBuiltin .unsafeSliceData C.ty a [] [v] h) = _
  rw [withT_some ht]
  rfl
theorem op_unsafeString {C : Ctx} {T : PT AV} {h : AH} {x y : Operand} {t t2 : TypeId} {u v : AV} {a : ATy} (hx : evOpd C.G T x = some u) (hy : evOpd C.G T y = some v) (ht : C.ty.get t = some a) :
    evOp (.call { callee := .builtin .unsafeString, args := #[x, y], argTypes := #[t, t2] }) C T h = evString C.ty a u v h := by
  show withL (oe none (evOpd C.G T x) fun v => oe none (oe none (evOpd C.G T y) fun v => oe none (some []) fun vs => some (v :: vs)) fun vs => some (v :: vs)) (fun args => withT C.ty t fun a => evBuiltin .unsafeString C.ty a [t2] args h) = _
  rw [hx, hy]
  show withT C.ty t (fun a => evBuiltin .unsafeString C.ty a [t2] [u, v] h) = _
  rw [withT_some ht]
  rfl
/-- String. -/
theorem Tryz.c51 {S : Summ} (hS : S.get 51 = none) {lo : Nat} {H : AH} {b : Nat} {s : List UInt8} (B : Bld lo H b s) (hm : H.mark ≤ lo) (hbig : s.length ≤ 16777216) :
    ∃ H', RunCall Tryz.ctx S 51 [.ptr b 0] H ⟨.str s, H'⟩ ∧ Bld lo H' b s ∧ Adv lo H H' := by
  obtain ⟨hlo, hbn, a0, buf, hb, ha, hbuf⟩ := B
  have ha' := ha
  rcases hbuf with ⟨rfl, rfl⟩ | ⟨c, fz, rfl, hcb, hloc, hcn, hc, hfz, hfl, hpos⟩
  · refine ⟨H, WRun.calls1 (r := 2) hS Tryz.fn51 rfl rfl rfl rfl ?_, ⟨hlo, hbn, a0, _, hb, ha, .inl ⟨rfl, rfl⟩⟩, Adv.refl lo H⟩
    have g0 : (argsT [.ptr b 0] 0 .leaf).get 0 = some (.ptr b 0) := rfl
    generalize argsT [.ptr b 0] 0 .leaf = T at g0
    (first | refine WRun.seq (WRun.region ?_) | refine WRun.seq (WRun.seq (WRun.region ?_)) | refine WRun.region ?_ | refine WRun.seq (WRun.seq (WRun.seq (WRun.region ?_)))); ((repeat (first | refine WOps.a rfl (by simp only [reduceIte, Nat.reduceEqDiff, Nat.reduceAdd, Bm, g0] <;> rfl) ?_ | refine WOps.b rfl rfl rfl (by simp only [reduceIte, Nat.reduceEqDiff, Nat.reduceAdd, Bm, g0] <;> rfl) ?_)); refine WOps.nil ?_)
    refine WRun.seq (WRun.regionD (by kernel_rfl) ?_)
    iterate 4 (first | refine WOps.a rfl (by simp only [reduceIte, Nat.reduceEqDiff, Nat.reduceAdd, Bm, g0, hb] <;> rfl) ?_ | refine WOps.vG ((guard_bool rfl rfl (by simp only [reduceIte, Nat.reduceEqDiff, Nat.reduceAdd, Bm, g0, hb] <;> rfl)).trans rfl) (by simp only [reduceIte, Nat.reduceEqDiff, Nat.reduceAdd, Bm, g0, hb] <;> rfl) rfl ?_ | refine WOps.nG (by first | exact (guard_bool rfl rfl (by simp only [reduceIte, Nat.reduceEqDiff, Nat.reduceAdd, Bm, g0, hb] <;> rfl)).trans rfl | exact guard_not rfl rfl (by simp only [reduceIte, Nat.reduceEqDiff, Nat.reduceAdd, Bm, g0, hb] <;> rfl)) rfl ?_)
    refine WOps.vN ((op_sliceData (v := .nils) (by simp only [reduceIte, Nat.reduceEqDiff, Nat.reduceAdd, Bm, g0] <;> rfl) Tryz.ty89).trans rfl) rfl ?_
    iterate 5 (first | refine WOps.a rfl (by simp only [reduceIte, Nat.reduceEqDiff, Nat.reduceAdd, Bm, g0, hb] <;> rfl) ?_ | refine WOps.vG ((guard_bool rfl rfl (by simp only [reduceIte, Nat.reduceEqDiff, Nat.reduceAdd, Bm, g0, hb] <;> rfl)).trans rfl) (by simp only [reduceIte, Nat.reduceEqDiff, Nat.reduceAdd, Bm, g0, hb] <;> rfl) rfl ?_ | refine WOps.nG (by first | exact (guard_bool rfl rfl (by simp only [reduceIte, Nat.reduceEqDiff, Nat.reduceAdd, Bm, g0, hb] <;> rfl)).trans rfl | exact guard_not rfl rfl (by simp only [reduceIte, Nat.reduceEqDiff, Nat.reduceAdd, Bm, g0, hb] <;> rfl)) rfl ?_)
    refine WOps.vN ((op_unsafeString (u := .nilp) (v := .int .i64 0) (by simp only [reduceIte, Nat.reduceEqDiff, Nat.reduceAdd, Bm, g0] <;> rfl) (by simp only [reduceIte, Nat.reduceEqDiff, Nat.reduceAdd, Bm, g0] <;> rfl) Tryz.ty143).trans rfl) rfl ?_
    ((repeat (first | refine WOps.a rfl (by simp only [reduceIte, Nat.reduceEqDiff, Nat.reduceAdd, Bm, g0] <;> rfl) ?_ | refine WOps.b rfl rfl rfl (by simp only [reduceIte, Nat.reduceEqDiff, Nat.reduceAdd, Bm, g0] <;> rfl) ?_)); refine WOps.nil ?_)
    exact WRun.ret ⟨trivial, rfl, rfl, (by simp only [reduceIte, Nat.reduceEqDiff, Nat.reduceAdd, Bm, g0] <;> rfl)⟩
  · let H' : AH := ⟨(H.set c (.cells (bytesAV s) (fzFreeze fz s.length))).t, H.next, H.mark, H.log⟩
    have hk : known ⟨H.t, H.next, H.next, []⟩ c = some (bytesAV s, fz) := by
      unfold known
      show (match H.t.get c with | some (.cells c fz) => some (c, fz) | _ => none) = _
      rw [hc]
    have hlen : (bytesAV s).length = s.length := bytesAV_length s
    have e1 : evSliceData Tryz.ctx.ty Tryz.y89 (.sliceU c 0 s.length 1) ⟨H.t, H.next, H.next, []⟩ = .val (.ptr c 0) ⟨H.t, H.next, H.next, []⟩ := by
      unfold evSliceData
      simp only [hk, len_eq, hlen]
      have q1 : Nat.blt 0 s.length = true := blt_iff.2 hpos
      have q2 : Nat.ble (Nat.add 0 1) s.length = true := ble_iff.2 (by show 0 + 1 ≤ s.length; omega)
      rw [q1, q2]
      rfl
    have e2 : evString Tryz.ctx.ty Tryz.y143 (.ptr c 0) (.int .i64 s.length) ⟨H.t, H.next, H.next, []⟩ = .val (.str s) ((⟨H.t, H.next, H.next, []⟩ : AH).set c (.cells (bytesAV s) (fzFreeze fz s.length))) := by
      have hd : Tryz.y143.d = .ptr 5 := rfl
      show evString Tryz.ctx.ty Tryz.y143 (.ptr c 0) (.int .i64 (Int.ofNat s.length)) _ = _
      unfold evString
      simp only [hd, Tryz.ty5]
      have q1 : Nat.blt 0 s.length = true := blt_iff.2 hpos
      have q2 : Nat.beq Tryz.y5.size 1 = true := rfl
      rw [q1, q2]
      show stringAt 5 c s.length _ = _
      unfold stringAt
      simp only [hk]
      have q3 : Nat.beq (Nat.mod fz 65536) (Nat.succ 5) = true := by
        show Nat.beq (fz % 65536) 6 = true
        rw [hfz]
        rfl
      have q4 : Nat.blt s.length 4294967296 = true := blt_iff.2 (by omega)
      have q5 : Go.Ev.sub (bytesAV s) 0 s.length = some (bytesAV s) := by
        show takeN s.length (bytesAV s) = _
        rw [← hlen]
        exact takeN_all _
      rw [q3, q4]
      show (match Go.Ev.sub (bytesAV s) 0 s.length with
        | some l => (match toBytes l with
          | some r => forceL r fun r => forceN (fzFreeze fz s.length) fun fz => R.val (.str r) (AH.set ⟨H.t, H.next, H.next, []⟩ c (.cells (bytesAV s) fz))
          | none => .fail)
        | none => .fail) = _
      rw [q5]
      simp only [toBytes_bytesAV, forceL_eq, forceN_eq]
    have hb0 : (⟨H.t, H.next, H.next, []⟩ : AH).t.get b = some (.cells [a0, .sliceU c 0 s.length 1] (fzNew 91)) := hb
    refine ⟨H', WRun.callsW (h' := H') hS Tryz.fn51 rfl rfl rfl ?_, ?_, ?_⟩
    · have g0 : (argsT [.ptr b 0] 0 .leaf).get 0 = some (.ptr b 0) := rfl
      generalize argsT [.ptr b 0] 0 .leaf = T at g0
      have ls : ∀ h' : AH, evLen Tryz.ctx.ty Tryz.y89 (.sliceU c 0 s.length 1) h' = some (.int .i64 s.length) := fun _ => rfl
      (first | refine WRun.seq (WRun.region ?_) | refine WRun.seq (WRun.seq (WRun.region ?_)) | refine WRun.region ?_ | refine WRun.seq (WRun.seq (WRun.seq (WRun.region ?_)))); ((repeat (first | refine WOps.a rfl (by simp only [reduceIte, Nat.reduceEqDiff, Nat.reduceAdd, Bm, g0] <;> rfl) ?_ | refine WOps.b rfl rfl rfl (by simp only [reduceIte, Nat.reduceEqDiff, Nat.reduceAdd, Bm, g0] <;> rfl) ?_)); refine WOps.nil ?_)
      refine WRun.seq (WRun.regionD (by kernel_rfl) ?_)
      iterate 4 (first | refine WOps.a rfl (by simp only [reduceIte, Nat.reduceEqDiff, Nat.reduceAdd, Bm, g0, hb] <;> rfl) ?_ | refine WOps.vG ((guard_bool rfl rfl (by simp only [reduceIte, Nat.reduceEqDiff, Nat.reduceAdd, Bm, g0, hb] <;> rfl)).trans rfl) (by simp only [reduceIte, Nat.reduceEqDiff, Nat.reduceAdd, Bm, g0, hb] <;> rfl) rfl ?_ | refine WOps.nG (by first | exact (guard_bool rfl rfl (by simp only [reduceIte, Nat.reduceEqDiff, Nat.reduceAdd, Bm, g0, hb] <;> rfl)).trans rfl | exact guard_not rfl rfl (by simp only [reduceIte, Nat.reduceEqDiff, Nat.reduceAdd, Bm, g0, hb] <;> rfl)) rfl ?_)
      refine WOps.vN ((op_sliceData (v := .sliceU c 0 s.length 1) (by simp only [reduceIte, Nat.reduceEqDiff, Nat.reduceAdd, Bm, g0] <;> rfl) Tryz.ty89).trans e1) rfl ?_
      iterate 5 (first | refine WOps.a rfl (by simp only [reduceIte, Nat.reduceEqDiff, Nat.reduceAdd, Bm, g0, hb, ls] <;> rfl) ?_ | refine WOps.vG ((guard_bool rfl rfl (by simp only [reduceIte, Nat.reduceEqDiff, Nat.reduceAdd, Bm, g0, hb, ls] <;> rfl)).trans rfl) (by simp only [reduceIte, Nat.reduceEqDiff, Nat.reduceAdd, Bm, g0, hb, ls] <;> rfl) rfl ?_ | refine WOps.nG (by first | exact (guard_bool rfl rfl (by simp only [reduceIte, Nat.reduceEqDiff, Nat.reduceAdd, Bm, g0, hb, ls] <;> rfl)).trans rfl | exact guard_not rfl rfl (by simp only [reduceIte, Nat.reduceEqDiff, Nat.reduceAdd, Bm, g0, hb, ls] <;> rfl)) rfl ?_)
      refine WOps.vN ((op_unsafeString (u := .ptr c 0) (v := .int .i64 s.length) (by simp only [reduceIte, Nat.reduceEqDiff, Nat.reduceAdd, Bm, g0] <;> rfl) (by simp only [reduceIte, Nat.reduceEqDiff, Nat.reduceAdd, Bm, g0] <;> rfl) Tryz.ty143).trans e2) rfl ?_
      ((repeat (first | refine WOps.a rfl (by simp only [reduceIte, Nat.reduceEqDiff, Nat.reduceAdd, Bm, g0] <;> rfl) ?_ | refine WOps.b rfl rfl rfl (by simp only [reduceIte, Nat.reduceEqDiff, Nat.reduceAdd, Bm, g0] <;> rfl) ?_)); refine WOps.nil ?_)
      refine WRun.ret ⟨atEnd1 (r := 2) trivial rfl (by simp only [reduceIte, Nat.reduceEqDiff, Nat.reduceAdd, Bm, g0] <;> rfl), rfl, rfl, ?_, mergeLog_none fun d hd => ?_⟩
      · rw [log_setE]
        show logged H.next c [] ≠ []
        intro e
        have : c ∈ logged H.next c [] := mem_logged.2 (.inr ⟨rfl, hcn⟩)
        rw [e] at this
        simp at this
      · rw [log_setE] at hd
        rcases mem_logged.1 hd with q | q
        · have q : d ∈ ([] : List Nat) := q
          simp at q
        · rw [q.1]; omega
    · refine ⟨hlo, hbn, a0, _, ?_, ha, .inr ⟨c, fzFreeze fz s.length, rfl, hcb, hloc, hcn, ?_, ?_, ?_, hpos⟩⟩
      · show (H.set c _).t.get b = _
        rw [get_set, if_neg (fun e => hcb e.symm)]; exact hb
      · show (H.set c _).t.get c = _
        rw [get_set, if_pos rfl]
      · rw [fzFreeze_mod]; exact hfz
      · rw [fzFreeze_div]; omega
    · refine ⟨rfl, rfl, Nat.le_refl _, fun d hd => ?_, fun hh d x hx => ?_⟩
      · show (H.set c _).t.get d = _
        rw [get_set, if_neg (by omega)]
      · have hx : (H.set c (.cells (bytesAV s) (fzFreeze fz s.length))).t.get d = some x := hx
        rw [get_set] at hx
        show d < H.next
        split at hx
        · omega
        · exact hh d x hx
end Go.Proofs
