/- A proof value that lies in a world, as the evaluator sees it. -/
import Derived.Test.YtggkgmmhblamfaaGreatDoorTWL
import Derived.Test.YtggkgmmhblamfaaGreatDoorTWM
import Derived.Test.YtggkgmmhblamfaaGreatDoorTEvW
set_option linter.all false
namespace Go.Proofs
open Go.Ev
set_option maxRecDepth 100000
set_option maxHeartbeats 4000000
/-- The functions that quandle.Parse reaches. -/
structure GetsQ (S : Summ) : Prop where
  s21 : S.get 21 = none
  s45 : S.get 45 = none
  s79 : S.get 79 = none
  s148 : S.get 148 = none
  s82 : S.get 82 = some sIndex
theorem Tryz.has21x {S : Summ} (G : Gets S) (P : GetsP S) (Q : GetsQ S) (t : List (List Int)) : Has21 S (fun s => s = tabT t ∧ VT t) (fun _ t' => t' = t) := fun H low s ⟨hs, vt⟩ => by
  obtain ⟨tv, e, h', R, q1, q2, q3, q4⟩ := Tryz.c21x Q.s21 G.s40 G.s50 G.s77 G.s88 G.s51 G.s16 G.s19 G.s41 G.s42 G.s43 Q.s45 Q.s79 Q.s148 Q.s82 P.s23 low vt hs
  have sm := vt.sm
  exact ⟨tv, e, h', t, R, q1, q2, q3, q4, by have := sm.len; omega, sm.wt, fun l hl x hx => (sm.row l hl).2.2 x hx, rfl⟩
theorem PrW.v {h : AH} {k m : Int} {tv cv : AV} {t : List (List Int)} {R : Nat → AV} {l : List Int} (q : PrW h m tv cv t R l) (v : VP k m t l) : PrV h m tv cv t R l := by
  have ht : wt t ≤ 16000000 ∧ ∀ r ∈ t, ∀ x ∈ r, -9223372036854775808 ≤ x ∧ x ≤ 9223372036854775807 := by
    unfold VP at v
    by_cases h3 : k = 3
    · rw [if_pos h3] at v; rw [v.1]; simp [wt]
    rw [if_neg h3] at v
    by_cases h4 : k = 4
    · rw [if_pos h4] at v
      have sm := v.2.2.sm
      exact ⟨sm.wt, fun r hr x hx => by have := (sm.row r hr).2.2 x hx; omega⟩
    rw [if_neg h4] at v
    by_cases h5 : k = 5
    · rw [if_pos h5] at v; rw [v.1]; simp [wt]
    · rw [if_neg h5] at v; rw [v.1]; simp [wt]
  have hl : ∀ x ∈ l, -9223372036854775808 ≤ x ∧ x ≤ 9223372036854775807 := by
    unfold VP at v
    by_cases h3 : k = 3
    · rw [if_pos h3] at v; rw [v.2.1]; simp
    rw [if_neg h3] at v
    by_cases h4 : k = 4
    · rw [if_pos h4] at v; rw [v.2.1]; simp
    rw [if_neg h4] at v
    by_cases h5 : k = 5
    · rw [if_pos h5] at v
      intro x hx
      have := isType_small v.2.2.1 v.2.2.2 x hx
      omega
    · rw [if_neg h5] at v; rw [v.2.2.1]; simp
  exact ⟨q.tab, q.row, q.m0, q.m1, q.tl, ht.1, ht.2, q.ll, hl⟩
theorem Tryz.fn3 : Tryz.ctx.fn.get 3 = some Tryz.f3 := by kernel_rfl
theorem Tryz.ex3 : Tryz.ctx.ext.get 3 = none := by kernel_rfl
/-- The law. -/
theorem Tryz.c3 {S : Summ} (hS3 : S.get 3 = none) (hS7 : S.get 7 = none) (hS9 : S.get 9 = none) (hS24 : S.get 24 = none) (hS25 : S.get 25 = none) (G : Gets S) (P : GetsP S) (GQ : GetsQ S) (aw : ∀ h : AH, RunCall Tryz.ctx S 5 [] h ⟨.bool true, h⟩)
    {h : AH} (low : ∀ b x, h.t.get b = some x → b < h.next) {k m : Int} {tv cv : AV} {t : List (List Int)} {R : Nat → AV} {l : List Int} (qt : TabT h tv t R) (qc : RowT h cv l) (m0 : -9223372036854775808 ≤ m) (m1 : m ≤ 9223372036854775807) :
    RunCall Tryz.ctx S 3 [.agg [.int .i64 k, .int .i64 m, tv, cv]] h ⟨.bool true, h⟩ := by
  refine WRun.calls1 (r := 2) hS3 Tryz.fn3 rfl rfl rfl rfl ?_
  have z27 : Tryz.y27.zero = [.int .i64 0, .int .i64 0, .nils, .nils] := rfl
  have fz28 : fzNew 27 = 28 := by decide +kernel
  have M1 := (Mine.start low).add (.cells [.int .i64 k, .int .i64 m, tv, cv] 0)
  have hb : ((⟨h.t, h.next, h.next, []⟩ : AH).add (.cells [.int .i64 k, .int .i64 m, tv, cv] 0)).t.get h.next = some (.cells [.int .i64 k, .int .i64 m, tv, cv] 0) := get_add_self (h := ⟨h.t, h.next, h.next, []⟩)
  have nx : ((⟨h.t, h.next, h.next, []⟩ : AH).add (.cells [.int .i64 k, .int .i64 m, tv, cv] 0)).next = h.next + 1 := rfl
  have g0 : (argsT [.agg [.int .i64 k, .int .i64 m, tv, cv]] 0 .leaf).get 0 = some (.agg [.int .i64 k, .int .i64 m, tv, cv]) := rfl
  generalize argsT [.agg [.int .i64 k, .int .i64 m, tv, cv]] 0 .leaf = T at g0
  (first | refine WRun.seq (WRun.region ?_) | refine WRun.seq (WRun.seq (WRun.region ?_)) | refine WRun.region ?_ | refine WRun.seq (WRun.seq (WRun.seq (WRun.region ?_)))); ((repeat (first | refine WOps.a rfl (by simp only [reduceIte, Nat.reduceEqDiff, Nat.reduceAdd, B3, g0] <;> rfl) ?_ | refine WOps.b rfl rfl rfl (by simp only [reduceIte, Nat.reduceEqDiff, Nat.reduceAdd, B3, g0] <;> rfl) ?_)); refine WOps.nil ?_)
  refine WRun.withT (P := fun T => T.get 1 = some (.ptr h.next 0)) (by simp only [reduceIte, Nat.reduceEqDiff, Nat.reduceAdd, B3, g0] <;> rfl) ?_
  generalize ((⟨h.t, h.next, h.next, []⟩ : AH).add (.cells [.int .i64 k, .int .i64 m, tv, cv] 0)) = H at M1 hb nx
  clear g0 T
  rintro T t1
  have l27 : evLoad Tryz.y27 (.ptr h.next 0) H = .val (.agg [.int .i64 k, .int .i64 m, tv, cv]) H := load27 hb
  have l2' : evLoad Tryz.y22 (.ptr h.next 2) H = .val tv H := load_word rfl hb rfl
  have l3 : evLoad Tryz.y25 (.ptr h.next 3) H = .val cv H := load_word rfl hb rfl
  have ql := qt.len
  have rl := qc.len
  (first | refine WRun.seq (WRun.region ?_) | refine WRun.seq (WRun.seq (WRun.region ?_)) | refine WRun.region ?_ | refine WRun.seq (WRun.seq (WRun.seq (WRun.region ?_))))
  refine WOps.cN (op_call0 Tryz.fn5 Tryz.ex5) (aw _) rfl ?_
  ((repeat (first | refine WOps.a rfl (by simp only [reduceIte, Nat.reduceEqDiff, Nat.reduceAdd, B3, t1] <;> rfl) ?_ | refine WOps.b rfl rfl rfl (by simp only [reduceIte, Nat.reduceEqDiff, Nat.reduceAdd, B3, t1] <;> rfl) ?_)); refine WOps.nil ?_)
  (first | refine WRun.condF (by simp only [reduceIte, Nat.reduceEqDiff, Nat.reduceAdd, B3, t1] <;> rfl) ?_ | refine WRun.seq (WRun.condF (by simp only [reduceIte, Nat.reduceEqDiff, Nat.reduceAdd, B3, t1] <;> rfl) ?_))
  refine WRun.skip ?_
  by_cases hA : 30 < t.length
  · have d1 : decide ((30 : Int) < (t.length : Int)) = true := by simp; omega
    (first | refine WRun.seq (WRun.region ?_) | refine WRun.seq (WRun.seq (WRun.region ?_)) | refine WRun.region ?_ | refine WRun.seq (WRun.seq (WRun.seq (WRun.region ?_)))); ((repeat (first | refine WOps.a rfl (by simp only [reduceIte, Nat.reduceEqDiff, Nat.reduceAdd, B2, t1, l2', ql, d1] <;> rfl) ?_ | refine WOps.b rfl rfl rfl (by simp only [reduceIte, Nat.reduceEqDiff, Nat.reduceAdd, B2, t1, l2', ql, d1] <;> rfl) ?_)); refine WOps.nil ?_)
    (first | refine WRun.condT (by simp only [reduceIte, Nat.reduceEqDiff, Nat.reduceAdd, B3, t1] <;> rfl) ?_ | refine WRun.seq (WRun.condT (by simp only [reduceIte, Nat.reduceEqDiff, Nat.reduceAdd, B3, t1] <;> rfl) ?_))
    (first | refine WRun.seq (WRun.region ?_) | refine WRun.seq (WRun.seq (WRun.region ?_)) | refine WRun.region ?_ | refine WRun.seq (WRun.seq (WRun.seq (WRun.region ?_)))); ((repeat (first | refine WOps.a rfl (by simp only [reduceIte, Nat.reduceEqDiff, Nat.reduceAdd, B3, t1] <;> rfl) ?_ | refine WOps.b rfl rfl rfl (by simp only [reduceIte, Nat.reduceEqDiff, Nat.reduceAdd, B3, t1] <;> rfl) ?_)); refine WOps.nil ?_)
    exact WRun.ret ⟨trivial, rfl, M1.log, (by simp only [reduceIte, Nat.reduceEqDiff, Nat.reduceAdd, B3, t1] <;> rfl)⟩
  have d1 : decide ((30 : Int) < (t.length : Int)) = false := by simp; omega
  by_cases hB : 12 < l.length
  · have d2 : decide ((12 : Int) < (l.length : Int)) = true := by simp; omega
    (first | refine WRun.seq (WRun.region ?_) | refine WRun.seq (WRun.seq (WRun.region ?_)) | refine WRun.region ?_ | refine WRun.seq (WRun.seq (WRun.seq (WRun.region ?_)))); ((repeat (first | refine WOps.a rfl (by simp only [reduceIte, Nat.reduceEqDiff, Nat.reduceAdd, B2, t1, l2', l3, ql, rl, d1, d2] <;> rfl) ?_ | refine WOps.b rfl rfl rfl (by simp only [reduceIte, Nat.reduceEqDiff, Nat.reduceAdd, B2, t1, l2', l3, ql, rl, d1, d2] <;> rfl) ?_)); refine WOps.nil ?_)
    (first | refine WRun.condT (by simp only [reduceIte, Nat.reduceEqDiff, Nat.reduceAdd, B3, t1] <;> rfl) ?_ | refine WRun.seq (WRun.condT (by simp only [reduceIte, Nat.reduceEqDiff, Nat.reduceAdd, B3, t1] <;> rfl) ?_))
    (first | refine WRun.seq (WRun.region ?_) | refine WRun.seq (WRun.seq (WRun.region ?_)) | refine WRun.region ?_ | refine WRun.seq (WRun.seq (WRun.seq (WRun.region ?_)))); ((repeat (first | refine WOps.a rfl (by simp only [reduceIte, Nat.reduceEqDiff, Nat.reduceAdd, B3, t1] <;> rfl) ?_ | refine WOps.b rfl rfl rfl (by simp only [reduceIte, Nat.reduceEqDiff, Nat.reduceAdd, B3, t1] <;> rfl) ?_)); refine WOps.nil ?_)
    exact WRun.ret ⟨trivial, rfl, M1.log, (by simp only [reduceIte, Nat.reduceEqDiff, Nat.reduceAdd, B3, t1] <;> rfl)⟩
  have d2 : decide ((12 : Int) < (l.length : Int)) = false := by simp; omega
  (first | refine WRun.seq (WRun.region ?_) | refine WRun.seq (WRun.seq (WRun.region ?_)) | refine WRun.region ?_ | refine WRun.seq (WRun.seq (WRun.seq (WRun.region ?_)))); ((repeat (first | refine WOps.a rfl (by simp only [reduceIte, Nat.reduceEqDiff, Nat.reduceAdd, B2, t1, l2', l3, ql, rl, d1, d2] <;> rfl) ?_ | refine WOps.b rfl rfl rfl (by simp only [reduceIte, Nat.reduceEqDiff, Nat.reduceAdd, B2, t1, l2', l3, ql, rl, d1, d2] <;> rfl) ?_)); refine WOps.nil ?_)
  (first | refine WRun.condF (by simp only [reduceIte, Nat.reduceEqDiff, Nat.reduceAdd, B3, t1] <;> rfl) ?_ | refine WRun.seq (WRun.condF (by simp only [reduceIte, Nat.reduceEqDiff, Nat.reduceAdd, B3, t1] <;> rfl) ?_))
  refine WRun.skip ?_
  have qw : PrW H m tv cv t R l := PrW.mono ⟨qt, qc, m0, m1, by omega, by omega⟩ M1.ext
  (first | refine WRun.seq (WRun.region ?_) | refine WRun.seq (WRun.seq (WRun.region ?_)) | refine WRun.region ?_ | refine WRun.seq (WRun.seq (WRun.seq (WRun.region ?_))))
  iterate 1 (first | refine WOps.a rfl (by simp only [reduceIte, Nat.reduceEqDiff, Nat.reduceAdd, B2, t1, l27] <;> rfl) ?_ | refine WOps.vG ((guard_bool rfl rfl (by simp only [reduceIte, Nat.reduceEqDiff, Nat.reduceAdd, B2, t1, l27] <;> rfl)).trans rfl) (by simp only [reduceIte, Nat.reduceEqDiff, Nat.reduceAdd, B2, t1, l27] <;> rfl) rfl ?_ | refine WOps.nG (by first | exact (guard_bool rfl rfl (by simp only [reduceIte, Nat.reduceEqDiff, Nat.reduceAdd, B2, t1, l27] <;> rfl)).trans rfl | exact guard_not rfl rfl (by simp only [reduceIte, Nat.reduceEqDiff, Nat.reduceAdd, B2, t1, l27] <;> rfl)) rfl ?_)
  by_cases v : VP k m t l
  · have qv := qw.v v
    refine WOps.cN (op_call1 (v := .agg [.int .i64 k, .int .i64 m, tv, cv]) (by simp only [reduceIte, Nat.reduceEqDiff, Nat.reduceAdd, B3, t1] <;> rfl) Tryz.fn6 Tryz.ex6) (Tryz.c6t G M1.lowN qv v) rfl ?_
    ((repeat (first | refine WOps.a rfl (by simp only [reduceIte, Nat.reduceEqDiff, Nat.reduceAdd, B3, t1] <;> rfl) ?_ | refine WOps.b rfl rfl rfl (by simp only [reduceIte, Nat.reduceEqDiff, Nat.reduceAdd, B3, t1] <;> rfl) ?_)); refine WOps.nil ?_)
    (first | refine WRun.seq (WRun.region ?_) | refine WRun.seq (WRun.seq (WRun.region ?_)) | refine WRun.region ?_ | refine WRun.seq (WRun.seq (WRun.seq (WRun.region ?_))))
    iterate 1 (first | refine WOps.a rfl (by simp only [reduceIte, Nat.reduceEqDiff, Nat.reduceAdd, B2, t1, l27] <;> rfl) ?_ | refine WOps.vG ((guard_bool rfl rfl (by simp only [reduceIte, Nat.reduceEqDiff, Nat.reduceAdd, B2, t1, l27] <;> rfl)).trans rfl) (by simp only [reduceIte, Nat.reduceEqDiff, Nat.reduceAdd, B2, t1, l27] <;> rfl) rfl ?_ | refine WOps.nG (by first | exact (guard_bool rfl rfl (by simp only [reduceIte, Nat.reduceEqDiff, Nat.reduceAdd, B2, t1, l27] <;> rfl)).trans rfl | exact guard_not rfl rfl (by simp only [reduceIte, Nat.reduceEqDiff, Nat.reduceAdd, B2, t1, l27] <;> rfl)) rfl ?_)
    refine WOps.cN (op_call1 (v := .agg [.int .i64 k, .int .i64 m, tv, cv]) (by simp only [reduceIte, Nat.reduceEqDiff, Nat.reduceAdd, B3, t1] <;> rfl) Tryz.fn7 Tryz.ex7) (Tryz.c7t hS7 G M1.lowN qv v) rfl ?_
    ((repeat (first | refine WOps.a rfl (by simp only [reduceIte, Nat.reduceEqDiff, Nat.reduceAdd, B3, t1] <;> rfl) ?_ | refine WOps.b rfl rfl rfl (by simp only [reduceIte, Nat.reduceEqDiff, Nat.reduceAdd, B3, t1] <;> rfl) ?_)); refine WOps.nil ?_)
    (first | refine WRun.condF (by simp only [reduceIte, Nat.reduceEqDiff, Nat.reduceAdd, B3, t1] <;> rfl) ?_ | refine WRun.seq (WRun.condF (by simp only [reduceIte, Nat.reduceEqDiff, Nat.reduceAdd, B3, t1] <;> rfl) ?_))
    refine WRun.skip ?_
    obtain ⟨r1, r2, r3⟩ := read_fmt v (Q := fun _ t' => t' = t) fun t' h => h
    have hl := fmt_len v
    have hD : kindTo (Lib.cut (fmtT k m t l) [32]).1 9 = 4 → (Lib.cut (fmtT k m t l) [32]).2.1 = tabT t ∧ VT t := fun e => by
      obtain ⟨k4, hc⟩ := r3 e
      subst k4
      exact ⟨hc, v.vt⟩
    generalize hsf : fmtT k m t l = s at r1 r2 r3 hl hD
    obtain ⟨pv, x, h', q1, q2, q3, q4, q5, q6, q7⟩ := Tryz.c8 G P (Tryz.has21x G P GQ t) M1.lowN hl hD
    have M2 : Mine h h' := ⟨M1.ext.trans q2, M1.low, q3, Nat.le_trans M1.next q4, by rw [q5, M1.mark], by rw [q6, M1.log]⟩
    have ga : (h'.add (.cells [.int .i64 0, .int .i64 0, .nils, .nils] (fzNew 27))).t.get h'.next = some (.cells [.int .i64 0, .int .i64 0, .nils, .nils] (fzNew 27)) := get_add_self
    rcases q7 with ⟨rfl, rfl, bd | ⟨k', m', t', l', rd, nv⟩⟩ | ⟨rfl, k', m', tv', cv', t', R', l', rfl, qp, n1, n2, rd, v', hf⟩
    · exact absurd bd r1
    · obtain ⟨rfl, rfl, rfl, rfl⟩ := r2 _ _ _ _ rd
      exact absurd ⟨v, hsf⟩ nv
    · obtain ⟨rfl, rfl, rfl, rfl⟩ := r2 _ _ _ _ rd
      have sw : evStore Tryz.y27 (.ptr h'.next 0) (.agg [.int .i64 k', .int .i64 m', tv', cv']) (h'.add (.cells [.int .i64 0, .int .i64 0, .nils, .nils] (fzNew 27))) = .skip ((h'.add (.cells [.int .i64 0, .int .i64 0, .nils, .nils] (fzNew 27))).set h'.next (.cells [.int .i64 k', .int .i64 m', tv', cv'] (fzNew 27))) := store27 rfl rfl n1.one.1 n2.one.1 ga (by rw [fz28]) rfl
      (first | refine WRun.seq (WRun.region ?_) | refine WRun.seq (WRun.seq (WRun.region ?_)) | refine WRun.region ?_ | refine WRun.seq (WRun.seq (WRun.seq (WRun.region ?_))))
      iterate 1 (first | refine WOps.a rfl (by simp only [reduceIte, Nat.reduceEqDiff, Nat.reduceAdd, B3, t1] <;> rfl) ?_ | refine WOps.vG ((guard_bool rfl rfl (by simp only [reduceIte, Nat.reduceEqDiff, Nat.reduceAdd, B3, t1] <;> rfl)).trans rfl) (by simp only [reduceIte, Nat.reduceEqDiff, Nat.reduceAdd, B3, t1] <;> rfl) rfl ?_ | refine WOps.nG (by first | exact (guard_bool rfl rfl (by simp only [reduceIte, Nat.reduceEqDiff, Nat.reduceAdd, B3, t1] <;> rfl)).trans rfl | exact guard_not rfl rfl (by simp only [reduceIte, Nat.reduceEqDiff, Nat.reduceAdd, B3, t1] <;> rfl)) rfl ?_)
      refine WOps.cN (op_call1 (v := .str s) (by simp only [reduceIte, Nat.reduceEqDiff, Nat.reduceAdd, B3, t1] <;> rfl) Tryz.fn8 Tryz.ex8) q1 rfl ?_
      ((repeat (first | refine WOps.a rfl (by simp only [reduceIte, Nat.reduceEqDiff, Nat.reduceAdd, B3, t1, z27, op_storeE, sw] <;> rfl) ?_ | refine WOps.b rfl rfl rfl (by simp only [reduceIte, Nat.reduceEqDiff, Nat.reduceAdd, B3, t1, z27, op_storeE, sw] <;> rfl) ?_)); refine WOps.nil ?_)
      have ex : Ext h' ((h'.add (.cells [.int .i64 0, .int .i64 0, .nils, .nils] (fzNew 27))).set h'.next (.cells [.int .i64 k', .int .i64 m', tv', cv'] (fzNew 27))) := fun b x e => by
        have := q3 b x e
        rw [get_set, if_neg (by omega), get_add, if_neg (by omega)]
        exact e
      have M3 := (M2.add (.cells [.int .i64 0, .int .i64 0, .nils, .nils] (fzNew 27))).set M2.next (by rw [next_add]; omega) (.cells [.int .i64 k', .int .i64 m', tv', cv'] (fzNew 27))
      have gb : ((h'.add (.cells [.int .i64 0, .int .i64 0, .nils, .nils] (fzNew 27))).set h'.next (.cells [.int .i64 k', .int .i64 m', tv', cv'] (fzNew 27))).t.get h'.next = some (.cells [.int .i64 k', .int .i64 m', tv', cv'] (fzNew 27)) := by rw [get_set, if_pos rfl]
      have gc := ex _ _ (q2 _ _ hb)
      have qp3 := qp.mono ex
      have qw3 := qw.mono (q2.trans ex)
      generalize ((h'.add (.cells [.int .i64 0, .int .i64 0, .nils, .nils] (fzNew 27))).set h'.next (.cells [.int .i64 k', .int .i64 m', tv', cv'] (fzNew 27))) = H3 at M3 gb gc qp3 qw3
      have lp : evLoad Tryz.y27 (.ptr h.next 0) H3 = .val (.agg [.int .i64 k', .int .i64 m', tv, cv]) H3 := load27 gc
      have lq : evLoad Tryz.y27 (.ptr h'.next 0) H3 = .val (.agg [.int .i64 k', .int .i64 m', tv', cv']) H3 := load27 gb
      have z0 : decide ((0 : Int) = 0) = true := rfl
      have htr : ∀ r ∈ t', r.length ≤ 1000000 := fun r hr => by
        unfold VP at v'
        by_cases h3 : k' = 3
        · rw [if_pos h3] at v'; rw [v'.1] at hr; simp at hr
        rw [if_neg h3] at v'
        by_cases h4 : k' = 4
        · rw [if_pos h4] at v'
          have := (v'.2.2.sm.row r hr).1
          omega
        rw [if_neg h4] at v'
        by_cases h5 : k' = 5
        · rw [if_pos h5] at v'; rw [v'.1] at hr; simp at hr
        · rw [if_neg h5] at v'; rw [v'.1] at hr; simp at hr
      (first | refine WRun.seq (WRun.region ?_) | refine WRun.seq (WRun.seq (WRun.region ?_)) | refine WRun.region ?_ | refine WRun.seq (WRun.seq (WRun.seq (WRun.region ?_))))
      iterate 9 (first | refine WOps.a rfl (by simp only [reduceIte, Nat.reduceEqDiff, Nat.reduceAdd, B2, t1, lp, lq, z0] <;> rfl) ?_ | refine WOps.vG ((guard_bool rfl rfl (by simp only [reduceIte, Nat.reduceEqDiff, Nat.reduceAdd, B2, t1, lp, lq, z0] <;> rfl)).trans rfl) (by simp only [reduceIte, Nat.reduceEqDiff, Nat.reduceAdd, B2, t1, lp, lq, z0] <;> rfl) rfl ?_ | refine WOps.nG (by first | exact (guard_bool rfl rfl (by simp only [reduceIte, Nat.reduceEqDiff, Nat.reduceAdd, B2, t1, lp, lq, z0] <;> rfl)).trans rfl | exact guard_not rfl rfl (by simp only [reduceIte, Nat.reduceEqDiff, Nat.reduceAdd, B2, t1, lp, lq, z0] <;> rfl)) rfl ?_)
      refine WOps.cG ((guard_bool rfl rfl (by simp only [reduceIte, Nat.reduceEqDiff, Nat.reduceAdd, B3, t1] <;> rfl)).trans rfl) (op_call2 (v := .agg [.int .i64 k', .int .i64 m', tv, cv]) (u := .agg [.int .i64 k', .int .i64 m', tv', cv']) (by simp only [reduceIte, Nat.reduceEqDiff, Nat.reduceAdd, B3, t1] <;> rfl) (by simp only [reduceIte, Nat.reduceEqDiff, Nat.reduceAdd, B3, t1] <;> rfl) Tryz.fn9 Tryz.ex9)
        (Tryz.c9 hS9 hS24 hS25 M3.lowN qw3.tab qp3.tab qw3.row qp3.row (by omega) htr (by omega)) rfl ?_
      ((repeat (first | refine WOps.a rfl (by simp only [reduceIte, Nat.reduceEqDiff, Nat.reduceAdd, B3, t1] <;> rfl) ?_ | refine WOps.b rfl rfl rfl (by simp only [reduceIte, Nat.reduceEqDiff, Nat.reduceAdd, B3, t1] <;> rfl) ?_)); refine WOps.nil ?_)
      exact WRun.ret ⟨trivial, rfl, M3.log, (by simp only [reduceIte, Nat.reduceEqDiff, Nat.reduceAdd, B3, t1] <;> rfl)⟩
  · refine WOps.cN (op_call1 (v := .agg [.int .i64 k, .int .i64 m, tv, cv]) (by simp only [reduceIte, Nat.reduceEqDiff, Nat.reduceAdd, B3, t1] <;> rfl) Tryz.fn6 Tryz.ex6) (Tryz.c6f G M1.lowN qw v) rfl ?_
    ((repeat (first | refine WOps.a rfl (by simp only [reduceIte, Nat.reduceEqDiff, Nat.reduceAdd, B3, t1] <;> rfl) ?_ | refine WOps.b rfl rfl rfl (by simp only [reduceIte, Nat.reduceEqDiff, Nat.reduceAdd, B3, t1] <;> rfl) ?_)); refine WOps.nil ?_)
    (first | refine WRun.seq (WRun.region ?_) | refine WRun.seq (WRun.seq (WRun.region ?_)) | refine WRun.region ?_ | refine WRun.seq (WRun.seq (WRun.seq (WRun.region ?_))))
    iterate 1 (first | refine WOps.a rfl (by simp only [reduceIte, Nat.reduceEqDiff, Nat.reduceAdd, B2, t1, l27] <;> rfl) ?_ | refine WOps.vG ((guard_bool rfl rfl (by simp only [reduceIte, Nat.reduceEqDiff, Nat.reduceAdd, B2, t1, l27] <;> rfl)).trans rfl) (by simp only [reduceIte, Nat.reduceEqDiff, Nat.reduceAdd, B2, t1, l27] <;> rfl) rfl ?_ | refine WOps.nG (by first | exact (guard_bool rfl rfl (by simp only [reduceIte, Nat.reduceEqDiff, Nat.reduceAdd, B2, t1, l27] <;> rfl)).trans rfl | exact guard_not rfl rfl (by simp only [reduceIte, Nat.reduceEqDiff, Nat.reduceAdd, B2, t1, l27] <;> rfl)) rfl ?_)
    refine WOps.cN (op_call1 (v := .agg [.int .i64 k, .int .i64 m, tv, cv]) (by simp only [reduceIte, Nat.reduceEqDiff, Nat.reduceAdd, B3, t1] <;> rfl) Tryz.fn7 Tryz.ex7) (Tryz.c7f hS7 G M1.lowN qw v) rfl ?_
    ((repeat (first | refine WOps.a rfl (by simp only [reduceIte, Nat.reduceEqDiff, Nat.reduceAdd, B3, t1] <;> rfl) ?_ | refine WOps.b rfl rfl rfl (by simp only [reduceIte, Nat.reduceEqDiff, Nat.reduceAdd, B3, t1] <;> rfl) ?_)); refine WOps.nil ?_)
    (first | refine WRun.condT (by simp only [reduceIte, Nat.reduceEqDiff, Nat.reduceAdd, B3, t1] <;> rfl) ?_ | refine WRun.seq (WRun.condT (by simp only [reduceIte, Nat.reduceEqDiff, Nat.reduceAdd, B3, t1] <;> rfl) ?_))
    have se : ∀ kk : Bool, binV Tryz.ctx.ty .eql 9 kk (.str []) (.str []) = some (.bool true) := fun kk => by rw [str_eql]; simp
    have z3 : decide ((3 : Int) = 3) = true := rfl
    (first | refine WRun.seq (WRun.region ?_) | refine WRun.seq (WRun.seq (WRun.region ?_)) | refine WRun.region ?_ | refine WRun.seq (WRun.seq (WRun.seq (WRun.region ?_)))); ((repeat (first | refine WOps.a rfl (by simp only [reduceIte, Nat.reduceEqDiff, Nat.reduceAdd, B3, t1, se, z3] <;> rfl) ?_ | refine WOps.b rfl rfl rfl (by simp only [reduceIte, Nat.reduceEqDiff, Nat.reduceAdd, B3, t1, se, z3] <;> rfl) ?_)); refine WOps.nil ?_)
    exact WRun.ret ⟨trivial, rfl, M1.log, (by simp only [reduceIte, Nat.reduceEqDiff, Nat.reduceAdd, B3, t1] <;> rfl)⟩
end Go.Proofs
namespace Go.Proofs
open Go.Ev
set_option maxRecDepth 100000
section
variable {W : World} {v : Value} {n : Nat} {V : Nat → Value}
theorem slv_len (q : SlV W v n V) {ty : PT ATy} {a : ATy} {e b : Nat} (ha : a.d = .slice e) (h' : AH) : evLen ty a (avV b v) h' = some (.int .i64 n) := by
  unfold evLen
  rw [ha]
  rcases q with ⟨rfl, rfl⟩ | ⟨a, cap, rfl, _⟩ <;> rfl
theorem slv_row (q : SlV W v n V) {b : Nat} {H : AH} {C : List AV} {L : Ev.Loc} (hl : C.length = n) (hb : H.t.get b = some (rowBlock L C)) : n = 0 ∨ RowAt H (avV b v) C := by
  rcases q with ⟨_, rfl⟩ | ⟨a, cap, rfl, _⟩
  · exact .inl rfl
  · exact .inr (.inr ⟨b, 0, cap, C, _, .inl (by rw [hl]; rfl), hb, fun i x hx => by rw [Nat.zero_add]; exact hx⟩)
def intV (l : List Int) (j : Nat) : Value := .int .i64 (l.getD j 0)
theorem ints_conc {ρ : Map} {l : List Int} (i : Nat) (c : AV) (h : (intsAV l)[i]? = some c) : conc ρ c = intV l i := by
  unfold intsAV at h
  rw [List.getElem?_map] at h
  unfold intV
  rw [List.getD_eq_getElem?_getD]
  cases e : l[i]? with
  | none => rw [e] at h; cases h
  | some x => rw [e] at h; cases h; rfl
theorem ints_lo (m : Nat) : ∀ l : List Int, loL m (intsAV l) = true
  | [] => rfl
  | _ :: l => ints_lo m l
theorem ints_len (l : List Int) : (intsAV l).length = l.length := List.length_map ..
end
section
variable (W : World) (tb cy : Value) (rv : Nat → Value) (t : List (List Int)) (l : List Int)
def arρ : Map := fun b => if b < 10 then ⟨b, 0, 0, none⟩ else if b = 10 then locV W tb else if b = 11 then locV W cy else locV W (rv (b - 12))
def arRows : List AV := (List.range t.length).map fun i => avV (12 + i) (rv i)
def arF : Nat → Option ABlock := fun b =>
  if b < 10 then none else if b = 10 then (if t.length = 0 then none else some (rowBlock (locV W tb) (arRows rv t)))
  else if b = 11 then (if l.length = 0 then none else some (rowBlock (locV W cy) (intsAV l)))
  else match t[b - 12]? with
    | some r => if r.length = 0 then none else some (rowBlock (locV W (rv (b - 12))) (intsAV r))
    | none => none
noncomputable def arH : AH := ⟨mkT (arF W tb cy rv t l) (12 + t.length), 12 + t.length, 0, []⟩
variable {W tb cy rv t l}
theorem arH_get (b : Nat) : (arH W tb cy rv t l).t.get b = if b < 12 + t.length then arF W tb cy rv t l b else none := mkT_get _ _ _
theorem arH_low (b : Nat) (x : ABlock) (h : (arH W tb cy rv t l).t.get b = some x) : b < (arH W tb cy rv t l).next := by
  rw [arH_get] at h
  by_cases hb : b < 12 + t.length
  · exact hb
  · rw [if_neg hb] at h; cases h
/-- What a block of the tree is. -/
theorem arH_cases {b : Nat} {x : ABlock} (h : (arH W tb cy rv t l).t.get b = some x) :
    (b = 10 ∧ 0 < t.length ∧ x = rowBlock (locV W tb) (arRows rv t)) ∨ (b = 11 ∧ 0 < l.length ∧ x = rowBlock (locV W cy) (intsAV l)) ∨
      ∃ i r, b = 12 + i ∧ t[i]? = some r ∧ 0 < r.length ∧ x = rowBlock (locV W (rv i)) (intsAV r) := by
  rw [arH_get] at h
  by_cases hb : b < 12 + t.length
  · rw [if_pos hb] at h
    unfold arF at h
    by_cases h1 : b < 10
    · rw [if_pos h1] at h; cases h
    rw [if_neg h1] at h
    by_cases h2 : b = 10
    · rw [if_pos h2] at h
      by_cases h3 : t.length = 0
      · rw [if_pos h3] at h; cases h
      · rw [if_neg h3] at h; cases h; exact .inl ⟨h2, by omega, rfl⟩
    rw [if_neg h2] at h
    by_cases h4 : b = 11
    · rw [if_pos h4] at h
      by_cases h3 : l.length = 0
      · rw [if_pos h3] at h; cases h
      · rw [if_neg h3] at h; cases h; exact .inr (.inl ⟨h4, by omega, rfl⟩)
    rw [if_neg h4] at h
    cases hr : t[b - 12]? with
    | none => rw [hr] at h; cases h
    | some r =>
      rw [hr] at h
      simp only at h
      by_cases h3 : r.length = 0
      · rw [if_pos h3] at h; cases h
      · rw [if_neg h3] at h; cases h; exact .inr (.inr ⟨b - 12, r, by omega, hr, by omega, rfl⟩)
  · rw [if_neg hb] at h; cases h
theorem arH_still (b : Nat) (x : ABlock) (h : (arH W tb cy rv t l).t.get b = some x) : x.Still := by
  rcases arH_cases h with ⟨_, _, rfl⟩ | ⟨_, _, rfl⟩ | ⟨i, r, _, _, _, rfl⟩ <;> exact rowBlock_still _ _
theorem arRows_get {i : Nat} {c : AV} (h : (arRows rv t)[i]? = some c) : i < t.length ∧ c = avV (12 + i) (rv i) := by
  unfold arRows at h
  rw [List.getElem?_map] at h
  by_cases hi : i < t.length
  · rw [List.getElem?_range hi] at h; cases h; exact ⟨hi, rfl⟩
  · rw [List.getElem?_eq_none (by simp; omega)] at h; cases h
theorem arRows_len : (arRows rv t).length = t.length := by unfold arRows; simp
variable (q0 : SlV W tb t.length rv) (qr : ∀ (i : Nat) (r : List Int), t[i]? = some r → SlV W (rv i) r.length (intV r)) (qc : SlV W cy l.length (intV l))
theorem allL_of {p : Nat → Bool} : ∀ {C : List AV}, (∀ (i : Nat) (c : AV), C[i]? = some c → c.all p = true) → allL p C = true
  | [], _ => rfl
  | c :: C, h => by
    show (c.all p && allL p C) = true
    rw [h 0 c rfl, allL_of fun i c' hc => h (i + 1) c' hc]
    rfl
include q0 qr qc in
theorem ar_sim : Sim 10 (arρ W tb cy rv) (arH W tb cy rv t l) W := by
  have key : ∀ i, i < t.length → ∃ r, t[i]? = some r := fun i hi => ⟨_, List.getElem?_eq_getElem hi⟩
  have ρ10 : arρ W tb cy rv 10 = locV W tb := rfl
  have ρ11 : arρ W tb cy rv 11 = locV W cy := rfl
  have ρr : ∀ i, arρ W tb cy rv (12 + i) = locV W (rv i) := fun i => by
    unfold arρ
    rw [if_neg (by omega), if_neg (by omega), if_neg (by omega), Nat.add_sub_cancel_left]
  refine ⟨fun b ab h => ⟨arH_low b ab h, ?_⟩, fun b c x y hx hy _ => .inr ⟨arH_still b x hx, arH_still c y hy⟩, fun g hg => ?_, ?_, Nat.zero_le _, fun b hb => ?_⟩
  · rcases arH_cases h with ⟨rfl, h1, rfl⟩ | ⟨rfl, h1, rfl⟩ | ⟨i, r, rfl, h1, h2, rfl⟩
    · refine ⟨allL_of fun i c hc => ?_, ?_⟩
      · obtain ⟨hi, rfl⟩ := arRows_get hc
        obtain ⟨r, hr⟩ := key i hi
        exact (qr i r hr).lo (show 12 + i < 12 + t.length by omega)
      · rw [ρ10]
        refine q0.rel h1 arRows_len fun i c hc => ?_
        obtain ⟨hi, rfl⟩ := arRows_get hc
        obtain ⟨r, hr⟩ := key i hi
        exact (qr i r hr).conc (ρr i)
    · exact ⟨ints_lo _ _, by rw [ρ11]; exact qc.rel h1 (ints_len l) ints_conc⟩
    · exact ⟨ints_lo _ _, by rw [ρr]; exact (qr i r h1).rel h2 (ints_len r) ints_conc⟩
  · unfold arρ
    rw [if_pos hg]
    exact ⟨rfl, rfl⟩
  · show 10 ≤ 12 + t.length
    omega
  · rcases hb with hb | ⟨ab, h⟩
    · unfold arρ
      rw [if_pos hb]
    · rcases arH_cases h with ⟨rfl, h1, _⟩ | ⟨rfl, h1, _⟩ | ⟨i, r, rfl, h1, h2, _⟩
      · rw [ρ10]; exact q0.spot h1
      · rw [ρ11]; exact qc.spot h1
      · rw [ρr]; exact (qr i r h1).spot h2
include qc in
theorem ar_row : RowT (arH W tb cy rv t l) (avV 11 cy) l := by
  refine ⟨fun h' => slv_len qc rfl h', fun j x hj h' e => ?_⟩
  have hlt := (List.getElem?_eq_some_iff.1 hj).1
  have hb : (arH W tb cy rv t l).t.get 11 = some (rowBlock (locV W cy) (intsAV l)) := by
    rw [arH_get, if_pos (by omega)]
    unfold arF
    rw [if_neg (by decide), if_neg (by decide), if_pos rfl, if_neg (by omega)]
  have ra := (slv_row qc (ints_len l) (e 11 _ hb)).resolve_left (by omega)
  exact ra.elem rfl Tryz.ty3 rfl rfl (by unfold intsAV; rw [List.getElem?_map, hj]; rfl)
include q0 qr in
theorem ar_tab : TabT (arH W tb cy rv t l) (avV 10 tb) t fun i => avV (12 + i) (rv i) := by
  refine ⟨fun h' => slv_len q0 rfl h', fun i r hi h' => slv_len (qr i r hi) rfl h', fun i r hi h' e => ?_, fun i r j x hi hj h' e => ?_⟩
  · have hlt := (List.getElem?_eq_some_iff.1 hi).1
    have hb : (arH W tb cy rv t l).t.get 10 = some (rowBlock (locV W tb) (arRows rv t)) := by
      rw [arH_get, if_pos (by omega)]
      unfold arF
      rw [if_neg (by decide), if_pos rfl, if_neg (by omega)]
    have ra := (slv_row q0 arRows_len (e 10 _ hb)).resolve_left (by omega)
    exact ra.elem rfl Tryz.ty25 rfl rfl (by unfold arRows; rw [List.getElem?_map, List.getElem?_range hlt]; rfl)
  · have hlt := (List.getElem?_eq_some_iff.1 hi).1
    have hlj := (List.getElem?_eq_some_iff.1 hj).1
    have hb : (arH W tb cy rv t l).t.get (12 + i) = some (rowBlock (locV W (rv i)) (intsAV r)) := by
      rw [arH_get, if_pos (by omega)]
      unfold arF
      rw [if_neg (by omega), if_neg (by omega), if_neg (by omega), Nat.add_sub_cancel_left, hi]
      show (if r.length = 0 then none else _) = _
      rw [if_neg (by omega)]
    have ra := (slv_row (qr i r hi) (ints_len r) (e (12 + i) _ hb)).resolve_left (by omega)
    exact ra.elem rfl Tryz.ty3 rfl rfl (by unfold intsAV; rw [List.getElem?_map, hj]; rfl)
end
end Go.Proofs
