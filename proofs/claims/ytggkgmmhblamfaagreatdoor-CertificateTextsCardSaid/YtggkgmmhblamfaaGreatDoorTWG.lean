/- Part of the proof. -/
import Derived.Test.YtggkgmmhblamfaaGreatDoorTWF
import Derived.Test.YtggkgmmhblamfaaGreatDoorTEvW
set_option linter.all false
namespace Go.Proofs
open Go.Ev
set_option maxRecDepth 100000
theorem RowAt.rowT {h : AH} {cv : AV} {l : List Int} (r : RowAt h cv (intsAV l)) : RowT h cv l := by
  refine ⟨fun h' => ?_, fun j x hj h' e => (RowAt.mono r e).elem rfl Tryz.ty3 rfl rfl (by unfold intsAV; rw [List.getElem?_map, hj]; rfl)⟩
  rw [show l.length = (intsAV l).length from (List.length_map ..).symm]
  rcases r with ⟨rfl, e⟩ | ⟨b, off, cap, c, fz, rfl | rfl, _, _⟩
  · rw [e]; rfl
  · rfl
  · rfl
/-- A valid proof. -/
def VP (k m : Int) (t : List (List Int)) (l : List Int) : Prop :=
  if k = 3 then t = [] ∧ l = [] ∧ 1 ≤ m ∧ m ≤ 1000 else if k = 4 then m = 0 ∧ l = [] ∧ VT t else if k = 5 then t = [] ∧ 1 ≤ m ∧ m ≤ 5 ∧ isTypeB m m l = true else t = [] ∧ m = 0 ∧ l = [] ∧ 1 ≤ k ∧ k ≤ 9
/-- What a proof value is. -/
structure PrV (h : AH) (m : Int) (tv cv : AV) (t : List (List Int)) (R : Nat → AV) (l : List Int) : Prop where
  tab : TabT h tv t R
  row : RowT h cv l
  m0 : -9223372036854775808 ≤ m
  m1 : m ≤ 9223372036854775807
  tl : t.length ≤ 20000
  tw : wt t ≤ 16000000
  te : ∀ r ∈ t, ∀ x ∈ r, -9223372036854775808 ≤ x ∧ x ≤ 9223372036854775807
  ll : l.length ≤ 20000
  le : ∀ x ∈ l, -9223372036854775808 ≤ x ∧ x ≤ 9223372036854775807
/-- .. as far as a check looks. -/
structure PrW (h : AH) (m : Int) (tv cv : AV) (t : List (List Int)) (R : Nat → AV) (l : List Int) : Prop where
  tab : TabT h tv t R
  row : RowT h cv l
  m0 : -9223372036854775808 ≤ m
  m1 : m ≤ 9223372036854775807
  tl : t.length ≤ 20000
  ll : l.length ≤ 20000
theorem PrW.mono {h h' : AH} {m : Int} {tv cv : AV} {t : List (List Int)} {R : Nat → AV} {l : List Int} (q : PrW h m tv cv t R l) (e : Ext h h') : PrW h' m tv cv t R l :=
  ⟨q.tab.mono e, q.row.mono e, q.m0, q.m1, q.tl, q.ll⟩
theorem PrV.w {h : AH} {m : Int} {tv cv : AV} {t : List (List Int)} {R : Nat → AV} {l : List Int} (q : PrV h m tv cv t R l) : PrW h m tv cv t R l := ⟨q.tab, q.row, q.m0, q.m1, q.tl, q.ll⟩
theorem PrV.mono {h h' : AH} {m : Int} {tv cv : AV} {t : List (List Int)} {R : Nat → AV} {l : List Int} (q : PrV h m tv cv t R l) (e : Ext h h') : PrV h' m tv cv t R l :=
  ⟨q.tab.mono e, q.row.mono e, q.m0, q.m1, q.tl, q.tw, q.te, q.ll, q.le⟩
/-- The functions that a valid proof's check and text reach are walked. -/
structure Gets (S : Summ) : Prop where
  s14 : S.get 14 = none
  s38 : S.get 38 = none
  s19 : S.get 19 = none
  s41 : S.get 41 = none
  s42 : S.get 42 = none
  s43 : S.get 43 = none
  s40 : S.get 40 = none
  s50 : S.get 50 = none
  s77 : S.get 77 = none
  s88 : S.get 88 = none
  s51 : S.get 51 = none
  s17 : S.get 17 = none
  s18 : S.get 18 = none
  s15 : S.get 15 = none
  s6 : S.get 6 = none
  s16 : S.get 16 = some sItoa
  s26 : S.get 26 = some sJoin
theorem len0 {α : Type} (l : List α) : ((l.length : Int) = 0) ↔ l = [] := by
  cases l with
  | nil => simp
  | cons a l => simp; omega
theorem Tryz.c14 {S : Summ} (G : Gets S) {h : AH} (low : ∀ b x, h.t.get b = some x → b < h.next) {k m : Int} {tv cv : AV} {t : List (List Int)} {R : Nat → AV} {l : List Int} (q : PrW h m tv cv t R l) {bb : Bool} (hbb : bb = true ↔ VP k m t l) :
    RunCall Tryz.ctx S 14 [.agg [.int .i64 k, .int .i64 m, tv, cv]] h ⟨.bool bb, h⟩ := by
  have ht := q.tab.len
  have hc := (q.row).len
  unfold VP at hbb
  by_cases h3 : k = 3
  · subst h3
    rw [if_pos rfl] at hbb
    have := Tryz.c14c (S := S) G.s14 (h := h) (m := m) ht hc
    rwa [show bb = (decide ((t.length : Int) = 0) && decide ((l.length : Int) = 0) && decide (1 ≤ m) && decide (m ≤ 1000)) by
      rw [Bool.eq_iff_iff, hbb]; simp only [Bool.and_eq_true, decide_eq_true_eq, len0, and_assoc]]
  rw [if_neg h3] at hbb
  by_cases h4 : k = 4
  · subst h4
    rw [if_pos rfl] at hbb
    have this : ∀ qb, (qb = true ↔ VT t) → RunCall Tryz.ctx S 14 [.agg [.int .i64 4, .int .i64 m, tv, cv]] h ⟨.bool (decide (m = 0) && decide ((l.length : Int) = 0) && qb), h⟩ := fun qb hqb =>
      Tryz.c14q (S := S) G.s14 (h := h) (m := m) ht hc (fun h' M => Tryz.c19 G.s19 G.s41 G.s42 G.s43 M.lowN (q.tab.mono M.ext) (by have := q.tl; omega) hqb) low
    by_cases v : VT t
    · have := this true (by simp [v])
      rwa [show bb = (decide (m = 0) && decide ((l.length : Int) = 0) && true) by
        rw [Bool.eq_iff_iff, hbb]; simp only [Bool.and_eq_true, decide_eq_true_eq, len0, and_assoc, v]]
    · have := this false (by simp [v])
      rwa [show bb = (decide (m = 0) && decide ((l.length : Int) = 0) && false) by
        rw [Bool.eq_iff_iff, hbb]; simp [v]]
  rw [if_neg h4] at hbb
  by_cases h5 : k = 5
  · subst h5
    rw [if_pos rfl] at hbb
    have := Tryz.c14h (S := S) G.s14 G.s38 (h := h) (m := m) q.m0 q.m1 (tl := t.length) (l := l) ht q.row (by have := q.ll; omega) low
    rwa [show bb = (decide ((t.length : Int) = 0) && decide (1 ≤ m) && decide (m ≤ 5) && isTypeB m m l) by
      rw [Bool.eq_iff_iff, hbb]; simp only [Bool.and_eq_true, decide_eq_true_eq, len0, and_assoc]]
  rw [if_neg h5] at hbb
  have := Tryz.c14o (S := S) G.s14 (h := h) (k := k) (m := m) ht hc (by simpa using h3) (by simpa using h4) (by simpa using h5)
  rwa [show bb = (decide ((t.length : Int) = 0) && decide (m = 0) && decide ((l.length : Int) = 0) && decide (1 ≤ k) && decide (k ≤ 9)) by
      rw [Bool.eq_iff_iff, hbb]; simp only [Bool.and_eq_true, decide_eq_true_eq, len0, and_assoc]]
end Go.Proofs
namespace Go.Proofs
open Go.Ev
set_option maxRecDepth 100000
theorem WRun.cut {C : Ctx} {S : Summ} {fn : FuncId} {n : Nat} {rd : Option Nat} {T : PT AV} {df : List Nat} {h : AH} {a : Code} {Q : Post} {M : PT AV → AH → Prop} (H : WRun C S fn n rd a T df h fun e T1 df1 h1 => e = .norm ∧ df1 = df ∧ M T1 h1) (hb : ∀ T1 h1, M T1 h1 → Q .norm T1 df h1) : WRun C S fn n rd a T df h Q :=
  H.mono fun e T1 df1 h1 ⟨e1, e2, e3⟩ => by subst e1 e2; exact hb T1 h1 e3
noncomputable def fmtT (k m : Int) (t : List (List Int)) (l : List Int) : List UInt8 :=
  if k = 3 then wordT k ++ ([32] ++ itoaK m) else if k = 4 then wordT k ++ ([32] ++ tabT t) else if k = 5 then wordT k ++ ((([32] ++ itoaK m) ++ [32]) ++ rowT l) else wordT k
theorem VP.range {k m : Int} {t : List (List Int)} {l : List Int} (v : VP k m t l) : 1 ≤ k ∧ k ≤ 9 := by
  unfold VP at v
  by_cases h3 : k = 3
  · omega
  rw [if_neg h3] at v
  by_cases h4 : k = 4
  · omega
  rw [if_neg h4] at v
  by_cases h5 : k = 5
  · omega
  rw [if_neg h5] at v
  exact v.2.2.2
theorem VP.vt {m : Int} {t : List (List Int)} {l : List Int} (v : VP 4 m t l) : VT t := v.2.2
theorem Tryz.c17 {S : Summ} (G : Gets S) {h : AH} (low : ∀ b x, h.t.get b = some x → b < h.next) {m : Int} {tv cv : AV} {t : List (List Int)} {R : Nat → AV} {l : List Int} (q : PrV h m tv cv t R l) (v : VT t) : RunCall Tryz.ctx S 17 [.agg [tv]] h ⟨.tup [.str (tabT t), .int .i64 0], h⟩ :=
  Tryz.c17t G.s17 (fun h' M => Tryz.c19 G.s19 G.s41 G.s42 G.s43 M.lowN (q.tab.mono M.ext) (by have := q.tl; omega) (bb := true) (by simp [v]))
    (fun h' M => Tryz.c40 G.s40 G.s50 G.s77 G.s88 G.s51 G.s16 M.lowN (q.tab.mono M.ext) (by have := q.tl; omega) q.tw q.te) low
theorem Tryz.c6f {S : Summ} (G : Gets S) {h : AH} (low : ∀ b x, h.t.get b = some x → b < h.next) {k m : Int} {tv cv : AV} {t : List (List Int)} {R : Nat → AV} {l : List Int} (q : PrW h m tv cv t R l) (v : ¬VP k m t l) :
    RunCall Tryz.ctx S 6 [.agg [.int .i64 k, .int .i64 m, tv, cv]] h ⟨.tup [.str [], .int .i64 3], h⟩ := by
  refine WRun.calls2 (r := 2) (q := 3) G.s6 Tryz.fn6 rfl rfl rfl rfl rfl ?_
  have hO := (Mine.start low).add (.cells [.int .i64 k, .int .i64 m, tv, cv] 0)
  have hb : ((⟨h.t, h.next, h.next, []⟩ : AH).add (.cells [.int .i64 k, .int .i64 m, tv, cv] 0)).t.get h.next = some (.cells [.int .i64 k, .int .i64 m, tv, cv] 0) := get_add_self
  have g0 : (argsT [.agg [.int .i64 k, .int .i64 m, tv, cv]] 0 .leaf).get 0 = some (.agg [.int .i64 k, .int .i64 m, tv, cv]) := rfl
  generalize argsT [.agg [.int .i64 k, .int .i64 m, tv, cv]] 0 .leaf = T at g0
  (first | refine WRun.seq (WRun.region ?_) | refine WRun.seq (WRun.seq (WRun.region ?_)) | refine WRun.region ?_ | refine WRun.seq (WRun.seq (WRun.seq (WRun.region ?_)))); ((repeat (first | refine WOps.a rfl (by simp only [reduceIte, Nat.reduceEqDiff, Nat.reduceAdd, B3, g0] <;> rfl) ?_ | refine WOps.b rfl rfl rfl (by simp only [reduceIte, Nat.reduceEqDiff, Nat.reduceAdd, B3, g0] <;> rfl) ?_)); refine WOps.nil ?_)
  refine WRun.seq (WRun.seq (WRun.region ?_))
  iterate 1 (first | refine WOps.a rfl (by simp only [reduceIte, Nat.reduceEqDiff, Nat.reduceAdd, B3, g0] <;> rfl) ?_ | refine WOps.vG ((guard_bool rfl rfl (by simp only [reduceIte, Nat.reduceEqDiff, Nat.reduceAdd, B3, g0] <;> rfl)).trans rfl) (by simp only [reduceIte, Nat.reduceEqDiff, Nat.reduceAdd, B3, g0] <;> rfl) rfl ?_ | refine WOps.nG (by first | exact (guard_bool rfl rfl (by simp only [reduceIte, Nat.reduceEqDiff, Nat.reduceAdd, B3, g0] <;> rfl)).trans rfl | exact guard_not rfl rfl (by simp only [reduceIte, Nat.reduceEqDiff, Nat.reduceAdd, B3, g0] <;> rfl)) rfl ?_)
  refine WOps.cN (op_call1 (v := .agg [.int .i64 k, .int .i64 m, tv, cv]) (by simp only [reduceIte, Nat.reduceEqDiff, Nat.reduceAdd, B3, g0] <;> rfl) Tryz.fn14 Tryz.ex14) (Tryz.c14 G hO.lowN (q.mono hO.ext) (bb := false) (by simp [v])) rfl ?_
  ((repeat (first | refine WOps.a rfl (by simp only [reduceIte, Nat.reduceEqDiff, Nat.reduceAdd, B3, g0] <;> rfl) ?_ | refine WOps.b rfl rfl rfl (by simp only [reduceIte, Nat.reduceEqDiff, Nat.reduceAdd, B3, g0] <;> rfl) ?_)); refine WOps.nil ?_)
  (first | refine WRun.condT (by simp only [reduceIte, Nat.reduceEqDiff, Nat.reduceAdd, B3, g0] <;> rfl) ?_ | refine WRun.seq (WRun.condT (by simp only [reduceIte, Nat.reduceEqDiff, Nat.reduceAdd, B3, g0] <;> rfl) ?_))
  (first | refine WRun.seq (WRun.region ?_) | refine WRun.seq (WRun.seq (WRun.region ?_)) | refine WRun.region ?_ | refine WRun.seq (WRun.seq (WRun.seq (WRun.region ?_)))); ((repeat (first | refine WOps.a rfl (by simp only [reduceIte, Nat.reduceEqDiff, Nat.reduceAdd, B3, g0] <;> rfl) ?_ | refine WOps.b rfl rfl rfl (by simp only [reduceIte, Nat.reduceEqDiff, Nat.reduceAdd, B3, g0] <;> rfl) ?_)); refine WOps.nil ?_)
  exact WRun.ret ⟨trivial, rfl, hO.log, (by simp only [reduceIte, Nat.reduceEqDiff, Nat.reduceAdd, B3, g0] <;> rfl), (by simp only [reduceIte, Nat.reduceEqDiff, Nat.reduceAdd, B3, g0] <;> rfl)⟩
theorem Tryz.c6t {S : Summ} (G : Gets S) {h : AH} (low : ∀ b x, h.t.get b = some x → b < h.next) {k m : Int} {tv cv : AV} {t : List (List Int)} {R : Nat → AV} {l : List Int} (q : PrV h m tv cv t R l) (v : VP k m t l) :
    RunCall Tryz.ctx S 6 [.agg [.int .i64 k, .int .i64 m, tv, cv]] h ⟨.tup [.str (fmtT k m t l), .int .i64 0], h⟩ := by
  obtain ⟨k1, k9⟩ := v.range
  refine WRun.calls2 (r := 2) (q := 3) G.s6 Tryz.fn6 rfl rfl rfl rfl rfl ?_
  have hO := (Mine.start low).add (.cells [.int .i64 k, .int .i64 m, tv, cv] 0)
  have hb : ((⟨h.t, h.next, h.next, []⟩ : AH).add (.cells [.int .i64 k, .int .i64 m, tv, cv] 0)).t.get h.next = some (.cells [.int .i64 k, .int .i64 m, tv, cv] 0) := get_add_self
  have g0 : (argsT [.agg [.int .i64 k, .int .i64 m, tv, cv]] 0 .leaf).get 0 = some (.agg [.int .i64 k, .int .i64 m, tv, cv]) := rfl
  generalize argsT [.agg [.int .i64 k, .int .i64 m, tv, cv]] 0 .leaf = T at g0
  (first | refine WRun.seq (WRun.region ?_) | refine WRun.seq (WRun.seq (WRun.region ?_)) | refine WRun.region ?_ | refine WRun.seq (WRun.seq (WRun.seq (WRun.region ?_)))); ((repeat (first | refine WOps.a rfl (by simp only [reduceIte, Nat.reduceEqDiff, Nat.reduceAdd, B3, g0] <;> rfl) ?_ | refine WOps.b rfl rfl rfl (by simp only [reduceIte, Nat.reduceEqDiff, Nat.reduceAdd, B3, g0] <;> rfl) ?_)); refine WOps.nil ?_)
  generalize ((⟨h.t, h.next, h.next, []⟩ : AH).add (.cells [.int .i64 k, .int .i64 m, tv, cv] 0)) = H at hO hb
  have la : evLoad Tryz.y27 (.ptr h.next 0) H = .val (.agg [.int .i64 k, .int .i64 m, tv, cv]) H := by rw [load_ptr, hb]; rfl
  have l0 : evLoad Tryz.y3 (.ptr h.next 0) H = .val (.int .i64 k) H := load_word rfl hb rfl
  have l1 : evLoad Tryz.y3 (.ptr h.next 1) H = .val (.int .i64 m) H := load_word rfl hb rfl
  have l2 : evLoad Tryz.y24 (.ptr h.next 2) H = .val (.agg [tv]) H := by rw [load_ptr, hb]; rfl
  refine WRun.seq (WRun.seq (WRun.region ?_))
  iterate 1 (first | refine WOps.a rfl (by simp only [reduceIte, Nat.reduceEqDiff, Nat.reduceAdd, B2, g0, la] <;> rfl) ?_ | refine WOps.vG ((guard_bool rfl rfl (by simp only [reduceIte, Nat.reduceEqDiff, Nat.reduceAdd, B2, g0, la] <;> rfl)).trans rfl) (by simp only [reduceIte, Nat.reduceEqDiff, Nat.reduceAdd, B2, g0, la] <;> rfl) rfl ?_ | refine WOps.nG (by first | exact (guard_bool rfl rfl (by simp only [reduceIte, Nat.reduceEqDiff, Nat.reduceAdd, B2, g0, la] <;> rfl)).trans rfl | exact guard_not rfl rfl (by simp only [reduceIte, Nat.reduceEqDiff, Nat.reduceAdd, B2, g0, la] <;> rfl)) rfl ?_)
  refine WOps.cN (op_call1 (v := .agg [.int .i64 k, .int .i64 m, tv, cv]) (by simp only [reduceIte, Nat.reduceEqDiff, Nat.reduceAdd, B3, g0] <;> rfl) Tryz.fn14 Tryz.ex14) (Tryz.c14 G hO.lowN (q.w.mono hO.ext) (bb := true) (by simp [v])) rfl ?_
  ((repeat (first | refine WOps.a rfl (by simp only [reduceIte, Nat.reduceEqDiff, Nat.reduceAdd, B3, g0] <;> rfl) ?_ | refine WOps.b rfl rfl rfl (by simp only [reduceIte, Nat.reduceEqDiff, Nat.reduceAdd, B3, g0] <;> rfl) ?_)); refine WOps.nil ?_)
  (first | refine WRun.condF (by simp only [reduceIte, Nat.reduceEqDiff, Nat.reduceAdd, B3, g0] <;> rfl) ?_ | refine WRun.seq (WRun.condF (by simp only [reduceIte, Nat.reduceEqDiff, Nat.reduceAdd, B3, g0] <;> rfl) ?_))
  refine WRun.skip ?_
  refine WRun.seq (WRun.region ?_)
  iterate 2 (first | refine WOps.a rfl (by simp only [reduceIte, Nat.reduceEqDiff, Nat.reduceAdd, B2, g0, l0] <;> rfl) ?_ | refine WOps.vG ((guard_bool rfl rfl (by simp only [reduceIte, Nat.reduceEqDiff, Nat.reduceAdd, B2, g0, l0] <;> rfl)).trans rfl) (by simp only [reduceIte, Nat.reduceEqDiff, Nat.reduceAdd, B2, g0, l0] <;> rfl) rfl ?_ | refine WOps.nG (by first | exact (guard_bool rfl rfl (by simp only [reduceIte, Nat.reduceEqDiff, Nat.reduceAdd, B2, g0, l0] <;> rfl)).trans rfl | exact guard_not rfl rfl (by simp only [reduceIte, Nat.reduceEqDiff, Nat.reduceAdd, B2, g0, l0] <;> rfl)) rfl ?_)
  refine WOps.cN (op_call1 (v := .int .i64 k) (by simp only [reduceIte, Nat.reduceEqDiff, Nat.reduceAdd, B3, g0] <;> rfl) Tryz.fn15 Tryz.ex15) (Tryz.c15 G.s15 hO.lowN k1 k9) rfl ?_
  ((repeat (first | refine WOps.a rfl (by simp only [reduceIte, Nat.reduceEqDiff, Nat.reduceAdd, B3, g0] <;> rfl) ?_ | refine WOps.b rfl rfl rfl (by simp only [reduceIte, Nat.reduceEqDiff, Nat.reduceAdd, B3, g0] <;> rfl) ?_)); refine WOps.nil ?_)
  (first | refine WRun.seq (WRun.region ?_) | refine WRun.seq (WRun.seq (WRun.region ?_)) | refine WRun.region ?_ | refine WRun.seq (WRun.seq (WRun.seq (WRun.region ?_)))); ((repeat (first | refine WOps.a rfl (by simp only [reduceIte, Nat.reduceEqDiff, Nat.reduceAdd, B2, g0, l0] <;> rfl) ?_ | refine WOps.b rfl rfl rfl (by simp only [reduceIte, Nat.reduceEqDiff, Nat.reduceAdd, B2, g0, l0] <;> rfl) ?_)); refine WOps.nil ?_)
  have hwl := wordT_len k
  refine (show WRun Tryz.ctx S 6 Tryz.f6.ntmps none _ _ _ _ _ from ?_)
  refine WRun.cut (M := fun T H' => H' = H ∧ T.get 4 = some (.str (fmtT k m t l))) ?_ ?_
  rotate_left
  · rintro T1 _ ⟨rfl, g4⟩
    refine (show WRun Tryz.ctx S 6 Tryz.f6.ntmps none _ _ _ _ _ from ?_)
    (first | refine WRun.seq (WRun.region ?_) | refine WRun.seq (WRun.seq (WRun.region ?_)) | refine WRun.region ?_ | refine WRun.seq (WRun.seq (WRun.seq (WRun.region ?_)))); ((repeat (first | refine WOps.a rfl (by simp only [reduceIte, Nat.reduceEqDiff, Nat.reduceAdd, B3, g4] <;> rfl) ?_ | refine WOps.b rfl rfl rfl (by simp only [reduceIte, Nat.reduceEqDiff, Nat.reduceAdd, B3, g4] <;> rfl) ?_)); refine WOps.nil ?_)
    exact WRun.ret ⟨trivial, rfl, hO.log, (by simp only [reduceIte, Nat.reduceEqDiff, Nat.reduceAdd, B3, g4] <;> rfl), (by simp only [reduceIte, Nat.reduceEqDiff, Nat.reduceAdd, B3, g4] <;> rfl)⟩
  refine WRun.block ?_
  have him := itoaK_len m
  by_cases h3 : k = 3
  · subst h3
    have s1 : ∀ (t : TypeId) (c : Bool), binV Tryz.ctx.ty .add t c (.str [32]) (.str (itoaK m)) = some (.str ([32] ++ itoaK m)) := fun t c => str_add (by show 1 + _ < _; omega)
    have s2 : ∀ (t : TypeId) (c : Bool), binV Tryz.ctx.ty .add t c (.str (wordT 3)) (.str ([32] ++ itoaK m)) = some (.str (wordT 3 ++ ([32] ++ itoaK m))) := fun t c => str_add (by rw [List.length_append]; show _ + (1 + _) < _; omega)
    (first | refine WRun.seq (WRun.region ?_) | refine WRun.seq (WRun.seq (WRun.region ?_)) | refine WRun.region ?_ | refine WRun.seq (WRun.seq (WRun.seq (WRun.region ?_)))); ((repeat (first | refine WOps.a rfl (by simp only [reduceIte, Nat.reduceEqDiff, Nat.reduceAdd, B3, g0] <;> rfl) ?_ | refine WOps.b rfl rfl rfl (by simp only [reduceIte, Nat.reduceEqDiff, Nat.reduceAdd, B3, g0] <;> rfl) ?_)); refine WOps.nil ?_)
    (first | refine WRun.condT (by simp only [reduceIte, Nat.reduceEqDiff, Nat.reduceAdd, B3, g0] <;> rfl) ?_ | refine WRun.seq (WRun.condT (by simp only [reduceIte, Nat.reduceEqDiff, Nat.reduceAdd, B3, g0] <;> rfl) ?_))
    refine WRun.region ?_
    iterate 3 (first | refine WOps.a rfl (by simp only [reduceIte, Nat.reduceEqDiff, Nat.reduceAdd, B2, g0, l1] <;> rfl) ?_ | refine WOps.vG ((guard_bool rfl rfl (by simp only [reduceIte, Nat.reduceEqDiff, Nat.reduceAdd, B2, g0, l1] <;> rfl)).trans rfl) (by simp only [reduceIte, Nat.reduceEqDiff, Nat.reduceAdd, B2, g0, l1] <;> rfl) rfl ?_ | refine WOps.nG (by first | exact (guard_bool rfl rfl (by simp only [reduceIte, Nat.reduceEqDiff, Nat.reduceAdd, B2, g0, l1] <;> rfl)).trans rfl | exact guard_not rfl rfl (by simp only [reduceIte, Nat.reduceEqDiff, Nat.reduceAdd, B2, g0, l1] <;> rfl)) rfl ?_)
    refine WOps.cN (op_call1 (v := .int .i64 m) (by simp only [reduceIte, Nat.reduceEqDiff, Nat.reduceAdd, B3, g0] <;> rfl) Tryz.fn16 Tryz.ex16) (Tryz.cItoa G.s16 q.m0 q.m1 _) rfl ?_
    ((repeat (first | refine WOps.a rfl (by simp only [reduceIte, Nat.reduceEqDiff, Nat.reduceAdd, B3, g0, s1, s2] <;> rfl) ?_ | refine WOps.b rfl rfl rfl (by simp only [reduceIte, Nat.reduceEqDiff, Nat.reduceAdd, B3, g0, s1, s2] <;> rfl) ?_)); refine WOps.nil ?_)
    exact ⟨rfl, rfl, rfl, (by simp only [reduceIte, Nat.reduceEqDiff, Nat.reduceAdd, B3, g0] <;> rfl)⟩
  by_cases h4 : k = 4
  · subst h4
    have htl := tabT_len t
    have htw := q.tw
    have s1 : ∀ (ty : TypeId) (c : Bool), binV Tryz.ctx.ty .add ty c (.str [32]) (.str (tabT t)) = some (.str ([32] ++ tabT t)) := fun ty c => str_add (by show 1 + _ < _; omega)
    have s2 : ∀ (ty : TypeId) (c : Bool), binV Tryz.ctx.ty .add ty c (.str (wordT 4)) (.str ([32] ++ tabT t)) = some (.str (wordT 4 ++ ([32] ++ tabT t))) := fun ty c => str_add (by rw [List.length_append]; show _ + (1 + _) < _; omega)
    (first | refine WRun.seq (WRun.region ?_) | refine WRun.seq (WRun.seq (WRun.region ?_)) | refine WRun.region ?_ | refine WRun.seq (WRun.seq (WRun.seq (WRun.region ?_)))); ((repeat (first | refine WOps.a rfl (by simp only [reduceIte, Nat.reduceEqDiff, Nat.reduceAdd, B3, g0] <;> rfl) ?_ | refine WOps.b rfl rfl rfl (by simp only [reduceIte, Nat.reduceEqDiff, Nat.reduceAdd, B3, g0] <;> rfl) ?_)); refine WOps.nil ?_)
    (first | refine WRun.condF (by simp only [reduceIte, Nat.reduceEqDiff, Nat.reduceAdd, B3, g0] <;> rfl) ?_ | refine WRun.seq (WRun.condF (by simp only [reduceIte, Nat.reduceEqDiff, Nat.reduceAdd, B3, g0] <;> rfl) ?_))
    (first | refine WRun.seq (WRun.region ?_) | refine WRun.seq (WRun.seq (WRun.region ?_)) | refine WRun.region ?_ | refine WRun.seq (WRun.seq (WRun.seq (WRun.region ?_)))); ((repeat (first | refine WOps.a rfl (by simp only [reduceIte, Nat.reduceEqDiff, Nat.reduceAdd, B3, g0] <;> rfl) ?_ | refine WOps.b rfl rfl rfl (by simp only [reduceIte, Nat.reduceEqDiff, Nat.reduceAdd, B3, g0] <;> rfl) ?_)); refine WOps.nil ?_)
    (first | refine WRun.condT (by simp only [reduceIte, Nat.reduceEqDiff, Nat.reduceAdd, B3, g0] <;> rfl) ?_ | refine WRun.seq (WRun.condT (by simp only [reduceIte, Nat.reduceEqDiff, Nat.reduceAdd, B3, g0] <;> rfl) ?_))
    refine WRun.seq (WRun.region ?_)
    iterate 2 (first | refine WOps.a rfl (by simp only [reduceIte, Nat.reduceEqDiff, Nat.reduceAdd, B2, g0, l2] <;> rfl) ?_ | refine WOps.vG ((guard_bool rfl rfl (by simp only [reduceIte, Nat.reduceEqDiff, Nat.reduceAdd, B2, g0, l2] <;> rfl)).trans rfl) (by simp only [reduceIte, Nat.reduceEqDiff, Nat.reduceAdd, B2, g0, l2] <;> rfl) rfl ?_ | refine WOps.nG (by first | exact (guard_bool rfl rfl (by simp only [reduceIte, Nat.reduceEqDiff, Nat.reduceAdd, B2, g0, l2] <;> rfl)).trans rfl | exact guard_not rfl rfl (by simp only [reduceIte, Nat.reduceEqDiff, Nat.reduceAdd, B2, g0, l2] <;> rfl)) rfl ?_)
    refine WOps.cN (op_call1 (v := .agg [tv]) (by simp only [reduceIte, Nat.reduceEqDiff, Nat.reduceAdd, B3, g0] <;> rfl) Tryz.fn17 Tryz.ex17) (Tryz.c17 G hO.lowN (q.mono hO.ext) v.vt) rfl ?_
    ((repeat (first | refine WOps.a rfl (by simp only [reduceIte, Nat.reduceEqDiff, Nat.reduceAdd, B3, g0] <;> rfl) ?_ | refine WOps.b rfl rfl rfl (by simp only [reduceIte, Nat.reduceEqDiff, Nat.reduceAdd, B3, g0] <;> rfl) ?_)); refine WOps.nil ?_)
    (first | refine WRun.seq (WRun.region ?_) | refine WRun.seq (WRun.seq (WRun.region ?_)) | refine WRun.region ?_ | refine WRun.seq (WRun.seq (WRun.seq (WRun.region ?_)))); ((repeat (first | refine WOps.a rfl (by simp only [reduceIte, Nat.reduceEqDiff, Nat.reduceAdd, B3, g0] <;> rfl) ?_ | refine WOps.b rfl rfl rfl (by simp only [reduceIte, Nat.reduceEqDiff, Nat.reduceAdd, B3, g0] <;> rfl) ?_)); refine WOps.nil ?_)
    (first | refine WRun.condF (by simp only [reduceIte, Nat.reduceEqDiff, Nat.reduceAdd, B3, g0] <;> rfl) ?_ | refine WRun.seq (WRun.condF (by simp only [reduceIte, Nat.reduceEqDiff, Nat.reduceAdd, B3, g0] <;> rfl) ?_))
    refine WRun.skip ?_
    (first | refine WRun.seq (WRun.region ?_) | refine WRun.seq (WRun.seq (WRun.region ?_)) | refine WRun.region ?_ | refine WRun.seq (WRun.seq (WRun.seq (WRun.region ?_)))); ((repeat (first | refine WOps.a rfl (by simp only [reduceIte, Nat.reduceEqDiff, Nat.reduceAdd, B3, g0, s1, s2] <;> rfl) ?_ | refine WOps.b rfl rfl rfl (by simp only [reduceIte, Nat.reduceEqDiff, Nat.reduceAdd, B3, g0, s1, s2] <;> rfl) ?_)); refine WOps.nil ?_)
    exact ⟨rfl, rfl, rfl, (by simp only [reduceIte, Nat.reduceEqDiff, Nat.reduceAdd, B3, g0] <;> rfl)⟩
  have f3 : decide (k = 3) = false := by simpa using h3
  have f4 : decide (k = 4) = false := by simpa using h4
  by_cases h5 : k = 5
  · subst h5
    have htl := rowT_len l
    have hll := q.ll
    have hlo : ∀ c : AH, c.t = H.t → c.next = H.next → c.t.get h.next = some (.cells [.int .i64 5, .int .i64 m, tv, cv] 0) := fun c e _ => by rw [e]; exact hb
    have s1 : ∀ (ty : TypeId) (c : Bool), binV Tryz.ctx.ty .add ty c (.str [32]) (.str (itoaK m)) = some (.str ([32] ++ itoaK m)) := fun ty c => str_add (by show 1 + _ < _; omega)
    have s2 : ∀ (ty : TypeId) (c : Bool), binV Tryz.ctx.ty .add ty c (.str ([32] ++ itoaK m)) (.str [32]) = some (.str (([32] ++ itoaK m) ++ [32])) := fun ty c => str_add (by rw [List.length_append]; show 1 + _ + 1 < _; omega)
    have s3 : ∀ (ty : TypeId) (c : Bool), binV Tryz.ctx.ty .add ty c (.str (([32] ++ itoaK m) ++ [32])) (.str (rowT l)) = some (.str ((([32] ++ itoaK m) ++ [32]) ++ rowT l)) := fun ty c => str_add (by rw [List.length_append, List.length_append]; show 1 + _ + 1 + _ < _; omega)
    have s4 : ∀ (ty : TypeId) (c : Bool), binV Tryz.ctx.ty .add ty c (.str (wordT 5)) (.str ((([32] ++ itoaK m) ++ [32]) ++ rowT l)) = some (.str (wordT 5 ++ ((([32] ++ itoaK m) ++ [32]) ++ rowT l))) := fun ty c => str_add (by rw [List.length_append, List.length_append, List.length_append]; show _ + (1 + _ + 1 + _) < _; omega)
    have hO2 : Mine H (⟨H.t, H.next, H.next, []⟩ : AH) := Mine.start hO.lowN
    have p1 : evLoad Tryz.y3 (.ptr h.next 1) ⟨H.t, H.next, H.next, []⟩ = .val (.int .i64 m) ⟨H.t, H.next, H.next, []⟩ := load_word (h := ⟨H.t, H.next, H.next, []⟩) rfl hb rfl
    have p3 : evLoad Tryz.y25 (.ptr h.next 3) ⟨H.t, H.next, H.next, []⟩ = .val cv ⟨H.t, H.next, H.next, []⟩ := load_word (h := ⟨H.t, H.next, H.next, []⟩) rfl hb rfl
    (first | refine WRun.seq (WRun.region ?_) | refine WRun.seq (WRun.seq (WRun.region ?_)) | refine WRun.region ?_ | refine WRun.seq (WRun.seq (WRun.seq (WRun.region ?_)))); ((repeat (first | refine WOps.a rfl (by simp only [reduceIte, Nat.reduceEqDiff, Nat.reduceAdd, B3, g0] <;> rfl) ?_ | refine WOps.b rfl rfl rfl (by simp only [reduceIte, Nat.reduceEqDiff, Nat.reduceAdd, B3, g0] <;> rfl) ?_)); refine WOps.nil ?_)
    (first | refine WRun.condF (by simp only [reduceIte, Nat.reduceEqDiff, Nat.reduceAdd, B3, g0] <;> rfl) ?_ | refine WRun.seq (WRun.condF (by simp only [reduceIte, Nat.reduceEqDiff, Nat.reduceAdd, B3, g0] <;> rfl) ?_))
    (first | refine WRun.seq (WRun.region ?_) | refine WRun.seq (WRun.seq (WRun.region ?_)) | refine WRun.region ?_ | refine WRun.seq (WRun.seq (WRun.seq (WRun.region ?_)))); ((repeat (first | refine WOps.a rfl (by simp only [reduceIte, Nat.reduceEqDiff, Nat.reduceAdd, B3, g0] <;> rfl) ?_ | refine WOps.b rfl rfl rfl (by simp only [reduceIte, Nat.reduceEqDiff, Nat.reduceAdd, B3, g0] <;> rfl) ?_)); refine WOps.nil ?_)
    (first | refine WRun.condF (by simp only [reduceIte, Nat.reduceEqDiff, Nat.reduceAdd, B3, g0] <;> rfl) ?_ | refine WRun.seq (WRun.condF (by simp only [reduceIte, Nat.reduceEqDiff, Nat.reduceAdd, B3, g0] <;> rfl) ?_))
    (first | refine WRun.seq (WRun.region ?_) | refine WRun.seq (WRun.seq (WRun.region ?_)) | refine WRun.region ?_ | refine WRun.seq (WRun.seq (WRun.seq (WRun.region ?_)))); ((repeat (first | refine WOps.a rfl (by simp only [reduceIte, Nat.reduceEqDiff, Nat.reduceAdd, B3, g0] <;> rfl) ?_ | refine WOps.b rfl rfl rfl (by simp only [reduceIte, Nat.reduceEqDiff, Nat.reduceAdd, B3, g0] <;> rfl) ?_)); refine WOps.nil ?_)
    (first | refine WRun.condT (by simp only [reduceIte, Nat.reduceEqDiff, Nat.reduceAdd, B3, g0] <;> rfl) ?_ | refine WRun.seq (WRun.condT (by simp only [reduceIte, Nat.reduceEqDiff, Nat.reduceAdd, B3, g0] <;> rfl) ?_))
    refine WRun.regionP (by kernel_rfl) ?_
    refine PW.val (by simp only [reduceIte, Nat.reduceEqDiff, Nat.reduceAdd, B3, g0] <;> rfl) ?_
    refine PW.val (by simp only [reduceIte, Nat.reduceEqDiff, Nat.reduceAdd, B3, g0] <;> rfl) ?_
    refine PW.val (by simp only [reduceIte, Nat.reduceEqDiff, Nat.reduceAdd, B2, g0, p1] <;> rfl) ?_
    refine PW.call (op_call1 (v := .int .i64 m) (by simp only [reduceIte, Nat.reduceEqDiff, Nat.reduceAdd, B3, g0] <;> rfl) Tryz.fn16 Tryz.ex16) (Tryz.cItoa G.s16 q.m0 q.m1 _) ?_
    refine PW.val (by simp only [reduceIte, Nat.reduceEqDiff, Nat.reduceAdd, B3, g0, s1] <;> rfl) ?_
    refine PW.val (by simp only [reduceIte, Nat.reduceEqDiff, Nat.reduceAdd, B3, g0, s2] <;> rfl) ?_
    refine PW.val (by simp only [reduceIte, Nat.reduceEqDiff, Nat.reduceAdd, B3, g0] <;> rfl) ?_
    refine PW.val (by simp only [reduceIte, Nat.reduceEqDiff, Nat.reduceAdd, B2, g0, p3] <;> rfl) ?_
    refine PW.call (op_call1 (v := cv) (by simp only [reduceIte, Nat.reduceEqDiff, Nat.reduceAdd, B3, g0] <;> rfl) Tryz.fn18 Tryz.ex18) (Tryz.c18 G.s18 G.s16 G.s26 hO2.lowN ((q.row).mono (hO.ext.trans hO2.ext)) q.ll q.le) ?_
    refine PW.val (by simp only [reduceIte, Nat.reduceEqDiff, Nat.reduceAdd, B3, g0, s3] <;> rfl) ?_
    refine PW.val (by simp only [reduceIte, Nat.reduceEqDiff, Nat.reduceAdd, B3, g0, s4] <;> rfl) ?_
    refine PW.val (by simp only [reduceIte, Nat.reduceEqDiff, Nat.reduceAdd, B3, g0] <;> rfl) ?_
    refine PW.nil ?_
    exact ⟨rfl, rfl, rfl, (by simp only [reduceIte, Nat.reduceEqDiff, Nat.reduceAdd, B3, g0] <;> rfl)⟩
  have f5 : decide (k = 5) = false := by simpa using h5
  (first | refine WRun.seq (WRun.region ?_) | refine WRun.seq (WRun.seq (WRun.region ?_)) | refine WRun.region ?_ | refine WRun.seq (WRun.seq (WRun.seq (WRun.region ?_)))); ((repeat (first | refine WOps.a rfl (by simp only [reduceIte, Nat.reduceEqDiff, Nat.reduceAdd, B3, g0, f3] <;> rfl) ?_ | refine WOps.b rfl rfl rfl (by simp only [reduceIte, Nat.reduceEqDiff, Nat.reduceAdd, B3, g0, f3] <;> rfl) ?_)); refine WOps.nil ?_)
  (first | refine WRun.condF (by simp only [reduceIte, Nat.reduceEqDiff, Nat.reduceAdd, B3, f3] <;> rfl) ?_ | refine WRun.seq (WRun.condF (by simp only [reduceIte, Nat.reduceEqDiff, Nat.reduceAdd, B3, f3] <;> rfl) ?_))
  (first | refine WRun.seq (WRun.region ?_) | refine WRun.seq (WRun.seq (WRun.region ?_)) | refine WRun.region ?_ | refine WRun.seq (WRun.seq (WRun.seq (WRun.region ?_)))); ((repeat (first | refine WOps.a rfl (by simp only [reduceIte, Nat.reduceEqDiff, Nat.reduceAdd, B3, g0, f4] <;> rfl) ?_ | refine WOps.b rfl rfl rfl (by simp only [reduceIte, Nat.reduceEqDiff, Nat.reduceAdd, B3, g0, f4] <;> rfl) ?_)); refine WOps.nil ?_)
  (first | refine WRun.condF (by simp only [reduceIte, Nat.reduceEqDiff, Nat.reduceAdd, B3, f4] <;> rfl) ?_ | refine WRun.seq (WRun.condF (by simp only [reduceIte, Nat.reduceEqDiff, Nat.reduceAdd, B3, f4] <;> rfl) ?_))
  (first | refine WRun.seq (WRun.region ?_) | refine WRun.seq (WRun.seq (WRun.region ?_)) | refine WRun.region ?_ | refine WRun.seq (WRun.seq (WRun.seq (WRun.region ?_)))); ((repeat (first | refine WOps.a rfl (by simp only [reduceIte, Nat.reduceEqDiff, Nat.reduceAdd, B3, g0, f5] <;> rfl) ?_ | refine WOps.b rfl rfl rfl (by simp only [reduceIte, Nat.reduceEqDiff, Nat.reduceAdd, B3, g0, f5] <;> rfl) ?_)); refine WOps.nil ?_)
  (first | refine WRun.condF (by simp only [reduceIte, Nat.reduceEqDiff, Nat.reduceAdd, B3, f5] <;> rfl) ?_ | refine WRun.seq (WRun.condF (by simp only [reduceIte, Nat.reduceEqDiff, Nat.reduceAdd, B3, f5] <;> rfl) ?_))
  refine WRun.skip ⟨rfl, rfl, rfl, ?_⟩
  rw [show fmtT k m t l = wordT k by unfold fmtT; rw [if_neg h3, if_neg h4, if_neg h5]]
  exact (by simp only [reduceIte, Nat.reduceEqDiff, Nat.reduceAdd, B3, g0] <;> rfl)
end Go.Proofs
