/- Part of the proof. -/
import Derived.Test.YtggkgmmhblamfaaGreatDoorTTab
set_option linter.all false
namespace Go.Proofs
open Go.Ev
set_option maxRecDepth 100000
def isTypeB (n last : Int) : List Int → Bool
  | [] => decide (n = 0)
  | c :: l => if c < 1 ∨ last < c ∨ n < c then false else isTypeB (n - c) c l
/-- cv is a row of integers: l. -/
structure RowT (h : AH) (cv : AV) (l : List Int) : Prop where
  len : ∀ h' : AH, evLen Tryz.ctx.ty Tryz.y25 cv h' = some (.int .i64 l.length)
  ent : ∀ (j : Nat) (x : Int), l[j]? = some x → ∀ h' : AH, Ext h h' → ∃ b o, evIndexAddr Tryz.ctx.ty Tryz.y25 cv (.int .i64 j) h' = .val (.ptr b o) h' ∧ evLoad Tryz.y3 (.ptr b o) h' = .val (.int .i64 x) h'
theorem RowT.mono {h h' : AH} {cv : AV} {l : List Int} (q : RowT h cv l) (e : Ext h h') : RowT h' cv l := ⟨q.len, fun j x hj h'' e' => q.ent j x hj h'' (e.trans e')⟩
theorem RowT.nil (h : AH) : RowT h .nils [] := ⟨fun _ => rfl, fun j x hj => by simp at hj⟩
theorem Tryz.c38 {S : Summ} (hS : S.get 38 = none) {h : AH} {n : Int} (h0 : -9223372036854775808 ≤ n) (h1 : n ≤ 9223372036854775807) {l : List Int} {v : AV} (hr : RowT h v l) (hl : l.length ≤ 9223372036854775806) :
    RunCall Tryz.ctx S 38 [.int .i64 n, v] h ⟨.bool (isTypeB n n l), h⟩ := by
  refine WRun.calls1 (r := 4) hS Tryz.fn38 rfl rfl rfl rfl ?_
  have hlen : evLen Tryz.ctx.ty Tryz.y25 v ⟨h.t, h.next, h.next, []⟩ = some (.int .i64 l.length) := hr.len _
  have g0 : (argsT [.int .i64 n, v] 0 .leaf).get 0 = some (.int .i64 n) := rfl
  have g1 : (argsT [.int .i64 n, v] 0 .leaf).get 1 = some v := rfl
  generalize argsT [.int .i64 n, v] 0 .leaf = T at g0 g1
  (first | refine WRun.seq (WRun.region ?_) | refine WRun.seq (WRun.seq (WRun.region ?_)) | refine WRun.region ?_ | refine WRun.seq (WRun.seq (WRun.seq (WRun.region ?_)))); ((repeat (first | refine WOps.a rfl (by simp only [reduceIte, Nat.reduceEqDiff, Nat.reduceAdd, Bm, g0, g1] <;> rfl) ?_ | refine WOps.b rfl rfl rfl (by simp only [reduceIte, Nat.reduceEqDiff, Nat.reduceAdd, Bm, g0, g1] <;> rfl) ?_)); refine WOps.nil ?_)
  (first | refine WRun.seq (WRun.region ?_) | refine WRun.seq (WRun.seq (WRun.region ?_)) | refine WRun.region ?_ | refine WRun.seq (WRun.seq (WRun.seq (WRun.region ?_)))); ((repeat (first | refine WOps.a rfl (by simp only [reduceIte, Nat.reduceEqDiff, Nat.reduceAdd, Bm, g0, g1] <;> rfl) ?_ | refine WOps.b rfl rfl rfl (by simp only [reduceIte, Nat.reduceEqDiff, Nat.reduceAdd, Bm, g0, g1] <;> rfl) ?_)); refine WOps.nil ?_)
  refine WRun.seq (WRun.seq (WRun.region ?_))
  (first | refine WOps.a rfl (by simp only [reduceIte, Nat.reduceEqDiff, Nat.reduceAdd, Bm, g0, g1] <;> rfl) ?_ | refine WOps.vG ((guard_bool rfl rfl (by simp only [reduceIte, Nat.reduceEqDiff, Nat.reduceAdd, Bm, g0, g1] <;> rfl)).trans rfl) (by simp only [reduceIte, Nat.reduceEqDiff, Nat.reduceAdd, Bm, g0, g1] <;> rfl) rfl ?_ | refine WOps.nG (by first | exact (guard_bool rfl rfl (by simp only [reduceIte, Nat.reduceEqDiff, Nat.reduceAdd, Bm, g0, g1] <;> rfl)).trans rfl | exact guard_not rfl rfl (by simp only [reduceIte, Nat.reduceEqDiff, Nat.reduceAdd, Bm, g0, g1] <;> rfl)) rfl ?_)
  refine WOps.vN ((op_len (by simp only [reduceIte, Nat.reduceEqDiff, Nat.reduceAdd, Bm, g0, g1]; rfl) Tryz.ty25).trans (by rw [hlen]; rfl)) rfl ?_
  ((repeat (first | refine WOps.a rfl (by simp only [reduceIte, Nat.reduceEqDiff, Nat.reduceAdd, Bm, g0, g1] <;> rfl) ?_ | refine WOps.b rfl rfl rfl (by simp only [reduceIte, Nat.reduceEqDiff, Nat.reduceAdd, Bm, g0, g1] <;> rfl) ?_)); refine WOps.nil ?_)
  refine WRun.block ?_
  refine WRun.loop (I := fun m T h' => ∃ (i : Nat) (n' last : Int), m + i = l.length ∧ h' = ⟨h.t, h.next, h.next, []⟩ ∧ T.get 0 = some (.int .i64 n') ∧ T.get 5 = some (.int .i64 last) ∧ T.get 9 = some v ∧
    T.get 10 = some (.int .i64 l.length) ∧ T.get 11 = some (.int .i64 i) ∧ isTypeB n' last (l.drop i) = isTypeB n n l ∧ -9223372036854775808 ≤ n' ∧ n' ≤ 9223372036854775807) (m := l.length) ?_ ⟨0, n, n, by omega, rfl, (by simp only [reduceIte, Nat.reduceEqDiff, Nat.reduceAdd, Bm, g0, g1] <;> rfl), (by simp only [reduceIte, Nat.reduceEqDiff, Nat.reduceAdd, Bm, g0, g1] <;> rfl), (by simp only [reduceIte, Nat.reduceEqDiff, Nat.reduceAdd, Bm, g0, g1] <;> rfl), (by simp only [reduceIte, Nat.reduceEqDiff, Nat.reduceAdd, Bm, g0, g1] <;> rfl), (by simp only [reduceIte, Nat.reduceEqDiff, Nat.reduceAdd, Bm, g0, g1] <;> rfl), rfl, h0, h1⟩
  rintro m T _ ⟨i, n', last, hm, rfl, t0, t5, t9, t10, t11, hb, b0, b1⟩
  by_cases hi : i < l.length
  · have hlt : ((i : Int) < (l.length : Int)) = True := by simp; exact hi
    obtain ⟨c, hc⟩ : ∃ c, l[i]? = some c := ⟨_, List.getElem?_eq_getElem hi⟩
    have hdrop : l.drop i = c :: l.drop (i + 1) := by
      obtain ⟨h1, h2⟩ := List.getElem?_eq_some_iff.1 hc
      rw [List.drop_eq_getElem_cons h1, h2]
    obtain ⟨bb, oo, e1, e2⟩ := hr.ent i c hc ⟨h.t, h.next, h.next, []⟩ fun _ _ e => e
    (first | refine WRun.seq (WRun.region ?_) | refine WRun.seq (WRun.seq (WRun.region ?_)) | refine WRun.region ?_ | refine WRun.seq (WRun.seq (WRun.seq (WRun.region ?_)))); ((repeat (first | refine WOps.a rfl (by simp only [reduceIte, Nat.reduceEqDiff, Nat.reduceAdd, Bm, t0, t5, t9, t10, t11, hlt] <;> rfl) ?_ | refine WOps.b rfl rfl rfl (by simp only [reduceIte, Nat.reduceEqDiff, Nat.reduceAdd, Bm, t0, t5, t9, t10, t11, hlt] <;> rfl) ?_)); refine WOps.nil ?_)
    (first | refine WRun.condT (by simp only [reduceIte, Nat.reduceEqDiff, Nat.reduceAdd, Bm, hlt] <;> rfl) ?_ | refine WRun.seq (WRun.condT (by simp only [reduceIte, Nat.reduceEqDiff, Nat.reduceAdd, Bm, hlt] <;> rfl) ?_))
    refine WRun.skip ?_
    refine WRun.seq (WRun.block (WRun.seq (WRun.region ?_)))
    refine WOps.vN ((op_indexAddr (by simp only [reduceIte, Nat.reduceEqDiff, Nat.reduceAdd, Bm, t9] <;> rfl) (by simp only [reduceIte, Nat.reduceEqDiff, Nat.reduceAdd, Bm, t11] <;> rfl) Tryz.ty25).trans e1) rfl ?_
    refine WOps.vN ((op_load (by simp only [reduceIte, Nat.reduceEqDiff, Nat.reduceAdd, Bm, t9] <;> rfl) Tryz.ty3).trans e2) rfl ?_
    ((repeat (first | refine WOps.a rfl (by simp only [reduceIte, Nat.reduceEqDiff, Nat.reduceAdd, Bm, t0] <;> rfl) ?_ | refine WOps.b rfl rfl rfl (by simp only [reduceIte, Nat.reduceEqDiff, Nat.reduceAdd, Bm, t0] <;> rfl) ?_)); refine WOps.nil ?_)
    rw [hdrop] at hb
    by_cases c1 : c < 1
    · have f1 : (c < 1) = True := eq_true c1
      have hf : isTypeB n n l = false := by rw [← hb, isTypeB, if_pos (.inl c1)]
      (first | refine WRun.seq (WRun.region ?_) | refine WRun.seq (WRun.seq (WRun.region ?_)) | refine WRun.region ?_ | refine WRun.seq (WRun.seq (WRun.seq (WRun.region ?_)))); ((repeat (first | refine WOps.a rfl (by simp only [reduceIte, Nat.reduceEqDiff, Nat.reduceAdd, Bm, t0, t5, t9, t10, t11, f1] <;> rfl) ?_ | refine WOps.b rfl rfl rfl (by simp only [reduceIte, Nat.reduceEqDiff, Nat.reduceAdd, Bm, t0, t5, t9, t10, t11, f1] <;> rfl) ?_)); refine WOps.nil ?_)
      (first | refine WRun.condT (by simp only [reduceIte, Nat.reduceEqDiff, Nat.reduceAdd, Bm, f1] <;> rfl) ?_ | refine WRun.seq (WRun.condT (by simp only [reduceIte, Nat.reduceEqDiff, Nat.reduceAdd, Bm, f1] <;> rfl) ?_))
      (first | refine WRun.seq (WRun.region ?_) | refine WRun.seq (WRun.seq (WRun.region ?_)) | refine WRun.region ?_ | refine WRun.seq (WRun.seq (WRun.seq (WRun.region ?_)))); ((repeat (first | refine WOps.a rfl (by simp only [reduceIte, Nat.reduceEqDiff, Nat.reduceAdd, Bm, t0] <;> rfl) ?_ | refine WOps.b rfl rfl rfl (by simp only [reduceIte, Nat.reduceEqDiff, Nat.reduceAdd, Bm, t0] <;> rfl) ?_)); refine WOps.nil ?_)
      exact WRun.ret ⟨trivial, rfl, rfl, by rw [hf]; exact (by simp only [reduceIte, Nat.reduceEqDiff, Nat.reduceAdd, Bm, t0] <;> rfl)⟩
    by_cases c2 : last < c
    · have f1 : (c < 1) = False := eq_false c1
      have f2 : (last < c) = True := eq_true c2
      have hf : isTypeB n n l = false := by rw [← hb, isTypeB, if_pos (.inr (.inl c2))]
      (first | refine WRun.seq (WRun.region ?_) | refine WRun.seq (WRun.seq (WRun.region ?_)) | refine WRun.region ?_ | refine WRun.seq (WRun.seq (WRun.seq (WRun.region ?_)))); ((repeat (first | refine WOps.a rfl (by simp only [reduceIte, Nat.reduceEqDiff, Nat.reduceAdd, Bm, t0, t5, t9, t10, t11, f1, f2] <;> rfl) ?_ | refine WOps.b rfl rfl rfl (by simp only [reduceIte, Nat.reduceEqDiff, Nat.reduceAdd, Bm, t0, t5, t9, t10, t11, f1, f2] <;> rfl) ?_)); refine WOps.nil ?_)
      (first | refine WRun.condT (by simp only [reduceIte, Nat.reduceEqDiff, Nat.reduceAdd, Bm, f1] <;> rfl) ?_ | refine WRun.seq (WRun.condT (by simp only [reduceIte, Nat.reduceEqDiff, Nat.reduceAdd, Bm, f1] <;> rfl) ?_))
      (first | refine WRun.seq (WRun.region ?_) | refine WRun.seq (WRun.seq (WRun.region ?_)) | refine WRun.region ?_ | refine WRun.seq (WRun.seq (WRun.seq (WRun.region ?_)))); ((repeat (first | refine WOps.a rfl (by simp only [reduceIte, Nat.reduceEqDiff, Nat.reduceAdd, Bm, t0] <;> rfl) ?_ | refine WOps.b rfl rfl rfl (by simp only [reduceIte, Nat.reduceEqDiff, Nat.reduceAdd, Bm, t0] <;> rfl) ?_)); refine WOps.nil ?_)
      exact WRun.ret ⟨trivial, rfl, rfl, by rw [hf]; exact (by simp only [reduceIte, Nat.reduceEqDiff, Nat.reduceAdd, Bm, t0] <;> rfl)⟩
    by_cases c3 : n' < c
    · have f1 : (c < 1) = False := eq_false c1
      have f2 : (last < c) = False := eq_false c2
      have f3 : (n' < c) = True := eq_true c3
      have hf : isTypeB n n l = false := by rw [← hb, isTypeB, if_pos (.inr (.inr c3))]
      (first | refine WRun.seq (WRun.region ?_) | refine WRun.seq (WRun.seq (WRun.region ?_)) | refine WRun.region ?_ | refine WRun.seq (WRun.seq (WRun.seq (WRun.region ?_)))); ((repeat (first | refine WOps.a rfl (by simp only [reduceIte, Nat.reduceEqDiff, Nat.reduceAdd, Bm, t0, t5, t9, t10, t11, f1, f2, f3] <;> rfl) ?_ | refine WOps.b rfl rfl rfl (by simp only [reduceIte, Nat.reduceEqDiff, Nat.reduceAdd, Bm, t0, t5, t9, t10, t11, f1, f2, f3] <;> rfl) ?_)); refine WOps.nil ?_)
      (first | refine WRun.condT (by simp only [reduceIte, Nat.reduceEqDiff, Nat.reduceAdd, Bm, f1] <;> rfl) ?_ | refine WRun.seq (WRun.condT (by simp only [reduceIte, Nat.reduceEqDiff, Nat.reduceAdd, Bm, f1] <;> rfl) ?_))
      (first | refine WRun.seq (WRun.region ?_) | refine WRun.seq (WRun.seq (WRun.region ?_)) | refine WRun.region ?_ | refine WRun.seq (WRun.seq (WRun.seq (WRun.region ?_)))); ((repeat (first | refine WOps.a rfl (by simp only [reduceIte, Nat.reduceEqDiff, Nat.reduceAdd, Bm, t0] <;> rfl) ?_ | refine WOps.b rfl rfl rfl (by simp only [reduceIte, Nat.reduceEqDiff, Nat.reduceAdd, Bm, t0] <;> rfl) ?_)); refine WOps.nil ?_)
      exact WRun.ret ⟨trivial, rfl, rfl, by rw [hf]; exact (by simp only [reduceIte, Nat.reduceEqDiff, Nat.reduceAdd, Bm, t0] <;> rfl)⟩
    have f1 : (c < 1) = False := eq_false c1
    have f2 : (last < c) = False := eq_false c2
    have f3 : (n' < c) = False := eq_false c3
    rw [isTypeB, if_neg (by omega)] at hb
    have hs : ∀ t k, binV Tryz.ctx.ty .sub t k (.int .i64 n') (.int .i64 c) = some (.int .i64 (n' - c)) := fun t k => bin_sub (by omega) (by omega)
    have ha : ∀ t k, binV Tryz.ctx.ty .add t k (.int .i64 (i : Int)) (.int .i64 1) = some (.int .i64 ((i : Int) + 1)) := fun t k => bin_add (by omega) (by omega)
    (first | refine WRun.seq (WRun.region ?_) | refine WRun.seq (WRun.seq (WRun.region ?_)) | refine WRun.region ?_ | refine WRun.seq (WRun.seq (WRun.seq (WRun.region ?_)))); ((repeat (first | refine WOps.a rfl (by simp only [reduceIte, Nat.reduceEqDiff, Nat.reduceAdd, Bm, t0, t5, t9, t10, t11, f1, f2, f3] <;> rfl) ?_ | refine WOps.b rfl rfl rfl (by simp only [reduceIte, Nat.reduceEqDiff, Nat.reduceAdd, Bm, t0, t5, t9, t10, t11, f1, f2, f3] <;> rfl) ?_)); refine WOps.nil ?_)
    (first | refine WRun.condF (by simp only [reduceIte, Nat.reduceEqDiff, Nat.reduceAdd, Bm, f1] <;> rfl) ?_ | refine WRun.seq (WRun.condF (by simp only [reduceIte, Nat.reduceEqDiff, Nat.reduceAdd, Bm, f1] <;> rfl) ?_))
    refine WRun.skip ?_
    (first | refine WRun.seq (WRun.region ?_) | refine WRun.seq (WRun.seq (WRun.region ?_)) | refine WRun.region ?_ | refine WRun.seq (WRun.seq (WRun.seq (WRun.region ?_)))); ((repeat (first | refine WOps.a rfl (by simp only [reduceIte, Nat.reduceEqDiff, Nat.reduceAdd, Bm, t0, t5, t9, t10, t11] <;> rfl) ?_ | refine WOps.b rfl rfl rfl (by simp only [reduceIte, Nat.reduceEqDiff, Nat.reduceAdd, Bm, t0, t5, t9, t10, t11] <;> rfl) ?_)); refine WOps.nil ?_)
    (first | refine WRun.seq (WRun.region ?_) | refine WRun.seq (WRun.seq (WRun.region ?_)) | refine WRun.region ?_ | refine WRun.seq (WRun.seq (WRun.seq (WRun.region ?_)))); ((repeat (first | refine WOps.a rfl (by simp only [reduceIte, Nat.reduceEqDiff, Nat.reduceAdd, Bm, t0, t5, t9, t10, t11, hs] <;> rfl) ?_ | refine WOps.b rfl rfl rfl (by simp only [reduceIte, Nat.reduceEqDiff, Nat.reduceAdd, Bm, t0, t5, t9, t10, t11, hs] <;> rfl) ?_)); refine WOps.nil ?_)
    (first | refine WRun.seq (WRun.region ?_) | refine WRun.seq (WRun.seq (WRun.region ?_)) | refine WRun.region ?_ | refine WRun.seq (WRun.seq (WRun.seq (WRun.region ?_)))); ((repeat (first | refine WOps.a rfl (by simp only [reduceIte, Nat.reduceEqDiff, Nat.reduceAdd, Bm, t0, t5, t9, t10, t11, ha] <;> rfl) ?_ | refine WOps.b rfl rfl rfl (by simp only [reduceIte, Nat.reduceEqDiff, Nat.reduceAdd, Bm, t0, t5, t9, t10, t11, ha] <;> rfl) ?_)); refine WOps.nil ?_)
    exact ⟨rfl, m - 1, by omega, i + 1, n' - c, c, by omega, rfl, (by simp only [reduceIte, Nat.reduceEqDiff, Nat.reduceAdd, Bm, t0] <;> rfl), (by simp only [reduceIte, Nat.reduceEqDiff, Nat.reduceAdd, Bm, t0] <;> rfl), (by simp only [reduceIte, Nat.reduceEqDiff, Nat.reduceAdd, Bm, t9] <;> rfl), (by simp only [reduceIte, Nat.reduceEqDiff, Nat.reduceAdd, Bm, t10] <;> rfl), (by simp only [reduceIte, Nat.reduceEqDiff, Nat.reduceAdd, Bm, t11] <;> rfl), hb, by omega, by omega⟩
  · have hlt : ((i : Int) < (l.length : Int)) = False := by simp; omega
    rw [List.drop_of_length_le (by omega), isTypeB] at hb
    (first | refine WRun.seq (WRun.region ?_) | refine WRun.seq (WRun.seq (WRun.region ?_)) | refine WRun.region ?_ | refine WRun.seq (WRun.seq (WRun.seq (WRun.region ?_)))); ((repeat (first | refine WOps.a rfl (by simp only [reduceIte, Nat.reduceEqDiff, Nat.reduceAdd, Bm, t0, t5, t9, t10, t11, hlt] <;> rfl) ?_ | refine WOps.b rfl rfl rfl (by simp only [reduceIte, Nat.reduceEqDiff, Nat.reduceAdd, Bm, t0, t5, t9, t10, t11, hlt] <;> rfl) ?_)); refine WOps.nil ?_)
    (first | refine WRun.condF (by simp only [reduceIte, Nat.reduceEqDiff, Nat.reduceAdd, Bm, hlt] <;> rfl) ?_ | refine WRun.seq (WRun.condF (by simp only [reduceIte, Nat.reduceEqDiff, Nat.reduceAdd, Bm, hlt] <;> rfl) ?_))
    refine WRun.exit ?_
    (first | refine WRun.seq (WRun.region ?_) | refine WRun.seq (WRun.seq (WRun.region ?_)) | refine WRun.region ?_ | refine WRun.seq (WRun.seq (WRun.seq (WRun.region ?_)))); ((repeat (first | refine WOps.a rfl (by simp only [reduceIte, Nat.reduceEqDiff, Nat.reduceAdd, Bm, t0] <;> rfl) ?_ | refine WOps.b rfl rfl rfl (by simp only [reduceIte, Nat.reduceEqDiff, Nat.reduceAdd, Bm, t0] <;> rfl) ?_)); refine WOps.nil ?_)
    exact WRun.ret ⟨trivial, rfl, rfl, by rw [← hb]; exact (by simp only [reduceIte, Nat.reduceEqDiff, Nat.reduceAdd, Bm, t0] <;> rfl)⟩
end Go.Proofs
namespace Go.Proofs
open Go.Ev
/-- tv is a square table of n rows: R i its rows, E i j its entries. -/
structure SqT (h : AH) (tv : AV) (n : Nat) (R : Nat → AV) (E : Nat → Nat → Nat) : Prop where
  len : ∀ h' : AH, evLen Tryz.ctx.ty Tryz.y22 tv h' = some (.int .i64 n)
  rlen : ∀ i, i < n → ∀ h' : AH, evLen Tryz.ctx.ty Tryz.y25 (R i) h' = some (.int .i64 n)
  row : ∀ i, i < n → ∀ h' : AH, Ext h h' → ∃ b o, evIndexAddr Tryz.ctx.ty Tryz.y22 tv (.int .i64 i) h' = .val (.ptr b o) h' ∧ evLoad Tryz.y25 (.ptr b o) h' = .val (R i) h'
  ent : ∀ i j, i < n → j < n → ∀ h' : AH, Ext h h' → ∃ b o, evIndexAddr Tryz.ctx.ty Tryz.y25 (R i) (.int .i64 j) h' = .val (.ptr b o) h' ∧ evLoad Tryz.y3 (.ptr b o) h' = .val (.int .i64 (E i j)) h'
  lt : ∀ i j, i < n → j < n → E i j < n
theorem SqT.mono {h h' : AH} {tv : AV} {n : Nat} {R : Nat → AV} {E : Nat → Nat → Nat} (q : SqT h tv n R E) (e : Ext h h') : SqT h' tv n R E :=
  ⟨q.len, q.rlen, fun i hi h'' e' => q.row i hi h'' (e.trans e'), fun i j hi hj h'' e' => q.ent i j hi hj h'' (e.trans e'), q.lt⟩
theorem add1 (i : Nat) (hi : i < 4611686018427387904) (t : TypeId) (k : Bool) : binV Tryz.ctx.ty .add t k (.int .i64 (i : Int)) (.int .i64 1) = some (.int .i64 ((i + 1 : Nat) : Int)) := by
  rw [bin_add (by omega) (by omega)]; rfl
end Go.Proofs
namespace Go.Proofs
open Go.Ev
set_option maxRecDepth 100000
/-- The first axiom. -/
def Idem (n : Nat) (E : Nat → Nat → Nat) : Prop := ∀ i, i < n → E i i = i
theorem Tryz.c41 {S : Summ} (hS : S.get 41 = none) {h : AH} {tv : AV} {n : Nat} {R : Nat → AV} {E : Nat → Nat → Nat} (q : SqT h tv n R E) (hn : n ≤ 30) {bb : Bool} (hbb : bb = true ↔ Idem n E) : RunCall Tryz.ctx S 41 [tv] h ⟨.bool bb, h⟩ := by
  have key : WRun Tryz.ctx S 41 Tryz.f41.ntmps none (Tryz.f41.body.getD .skip) (argsT [tv] 0 .leaf) [] ⟨h.t, h.next, h.next, []⟩ fun e T df h' => (match e with | .norm => True | .ret => True | _ => False) ∧ df = [] ∧ h'.log = [] ∧ T.get 2 = some (.bool bb) := by
    have hE : Ext h ⟨h.t, h.next, h.next, []⟩ := fun _ _ e => e
    have g0 : (argsT [tv] 0 .leaf).get 0 = some tv := rfl
    generalize argsT [tv] 0 .leaf = T at g0
    (first | refine WRun.seq (WRun.region ?_) | refine WRun.seq (WRun.seq (WRun.region ?_)) | refine WRun.region ?_ | refine WRun.seq (WRun.seq (WRun.seq (WRun.region ?_)))); ((repeat (first | refine WOps.a rfl (by simp only [reduceIte, Nat.reduceEqDiff, Nat.reduceAdd, Bm, g0] <;> rfl) ?_ | refine WOps.b rfl rfl rfl (by simp only [reduceIte, Nat.reduceEqDiff, Nat.reduceAdd, Bm, g0] <;> rfl) ?_)); refine WOps.nil ?_)
    have ql := q.len
    (first | refine WRun.seq (WRun.region ?_) | refine WRun.seq (WRun.seq (WRun.region ?_)) | refine WRun.region ?_ | refine WRun.seq (WRun.seq (WRun.seq (WRun.region ?_)))); ((repeat (first | refine WOps.a rfl (by simp only [reduceIte, Nat.reduceEqDiff, Nat.reduceAdd, Bm, g0, ql] <;> rfl) ?_ | refine WOps.b rfl rfl rfl (by simp only [reduceIte, Nat.reduceEqDiff, Nat.reduceAdd, Bm, g0, ql] <;> rfl) ?_)); refine WOps.nil ?_)
    refine WRun.block ?_
    refine WRun.loop (I := fun m T h' => ∃ x : Nat, m + x = n ∧ h' = ⟨h.t, h.next, h.next, []⟩ ∧ T.get 0 = some tv ∧ T.get 5 = some (.int .i64 n) ∧ T.get 6 = some (.int .i64 x) ∧ (∀ i, i < x → E i i = i)) (m := n) ?_ ⟨0, by omega, rfl, (by simp only [reduceIte, Nat.reduceEqDiff, Nat.reduceAdd, Bm, g0] <;> rfl), (by simp only [reduceIte, Nat.reduceEqDiff, Nat.reduceAdd, Bm, g0] <;> rfl), (by simp only [reduceIte, Nat.reduceEqDiff, Nat.reduceAdd, Bm, g0] <;> rfl), fun i hi => by omega⟩
    rintro m T _ ⟨x, hm, rfl, t0, t5, t6, hid⟩
    by_cases hx : x < n
    · have hlt : ((x : Int) < (n : Int)) = True := by simp; exact hx
      (first | refine WRun.seq (WRun.region ?_) | refine WRun.seq (WRun.seq (WRun.region ?_)) | refine WRun.region ?_ | refine WRun.seq (WRun.seq (WRun.seq (WRun.region ?_)))); ((repeat (first | refine WOps.a rfl (by simp only [reduceIte, Nat.reduceEqDiff, Nat.reduceAdd, Bm, t5, t6, hlt] <;> rfl) ?_ | refine WOps.b rfl rfl rfl (by simp only [reduceIte, Nat.reduceEqDiff, Nat.reduceAdd, Bm, t5, t6, hlt] <;> rfl) ?_)); refine WOps.nil ?_)
      (first | refine WRun.condT (by simp only [reduceIte, Nat.reduceEqDiff, Nat.reduceAdd, Bm, hlt] <;> rfl) ?_ | refine WRun.seq (WRun.condT (by simp only [reduceIte, Nat.reduceEqDiff, Nat.reduceAdd, Bm, hlt] <;> rfl) ?_))
      refine WRun.skip ?_
      refine WRun.seq (WRun.block ?_)
      (first | refine WRun.seq (WRun.region ?_) | refine WRun.seq (WRun.seq (WRun.region ?_)) | refine WRun.region ?_ | refine WRun.seq (WRun.seq (WRun.seq (WRun.region ?_)))); ((repeat (first | refine WOps.a rfl (by simp only [reduceIte, Nat.reduceEqDiff, Nat.reduceAdd, Bm, t6] <;> rfl) ?_ | refine WOps.b rfl rfl rfl (by simp only [reduceIte, Nat.reduceEqDiff, Nat.reduceAdd, Bm, t6] <;> rfl) ?_)); refine WOps.nil ?_)
      obtain ⟨b1, o1, a1, l1⟩ := q.row x hx ⟨h.t, h.next, h.next, []⟩ hE
      obtain ⟨b2, o2, a2, l2⟩ := q.ent x x hx hx ⟨h.t, h.next, h.next, []⟩ hE
      have ad := add1 x (by omega)
      cases d : decide (((E x x : Nat) : Int) = (x : Int))
      · (first | refine WRun.seq (WRun.region ?_) | refine WRun.seq (WRun.seq (WRun.region ?_)) | refine WRun.region ?_ | refine WRun.seq (WRun.seq (WRun.seq (WRun.region ?_)))); ((repeat (first | refine WOps.a rfl (by simp only [reduceIte, Nat.reduceEqDiff, Nat.reduceAdd, Bn, t0, t6, a1, l1, a2, l2, d] <;> rfl) ?_ | refine WOps.b rfl rfl rfl (by simp only [reduceIte, Nat.reduceEqDiff, Nat.reduceAdd, Bn, t0, t6, a1, l1, a2, l2, d] <;> rfl) ?_)); refine WOps.nil ?_)
        (first | refine WRun.condT (by simp only [reduceIte, Nat.reduceEqDiff, Nat.reduceAdd, Bm, d] <;> rfl) ?_ | refine WRun.seq (WRun.condT (by simp only [reduceIte, Nat.reduceEqDiff, Nat.reduceAdd, Bm, d] <;> rfl) ?_))
        (first | refine WRun.seq (WRun.region ?_) | refine WRun.seq (WRun.seq (WRun.region ?_)) | refine WRun.region ?_ | refine WRun.seq (WRun.seq (WRun.seq (WRun.region ?_)))); ((repeat (first | refine WOps.a rfl (by simp only [reduceIte, Nat.reduceEqDiff, Nat.reduceAdd, Bm, t0] <;> rfl) ?_ | refine WOps.b rfl rfl rfl (by simp only [reduceIte, Nat.reduceEqDiff, Nat.reduceAdd, Bm, t0] <;> rfl) ?_)); refine WOps.nil ?_)
        have hf : bb = false := by
          cases bb with
          | false => rfl
          | true => have := hbb.1 rfl x hx; rw [this] at d; simp at d
        exact WRun.ret ⟨trivial, rfl, rfl, by rw [hf]; exact (by simp only [reduceIte, Nat.reduceEqDiff, Nat.reduceAdd, Bm, t0] <;> rfl)⟩
      · (first | refine WRun.seq (WRun.region ?_) | refine WRun.seq (WRun.seq (WRun.region ?_)) | refine WRun.region ?_ | refine WRun.seq (WRun.seq (WRun.seq (WRun.region ?_)))); ((repeat (first | refine WOps.a rfl (by simp only [reduceIte, Nat.reduceEqDiff, Nat.reduceAdd, Bn, t0, t6, a1, l1, a2, l2, d] <;> rfl) ?_ | refine WOps.b rfl rfl rfl (by simp only [reduceIte, Nat.reduceEqDiff, Nat.reduceAdd, Bn, t0, t6, a1, l1, a2, l2, d] <;> rfl) ?_)); refine WOps.nil ?_)
        (first | refine WRun.condF (by simp only [reduceIte, Nat.reduceEqDiff, Nat.reduceAdd, Bm, d] <;> rfl) ?_ | refine WRun.seq (WRun.condF (by simp only [reduceIte, Nat.reduceEqDiff, Nat.reduceAdd, Bm, d] <;> rfl) ?_))
        refine WRun.skip ?_
        (first | refine WRun.seq (WRun.region ?_) | refine WRun.seq (WRun.seq (WRun.region ?_)) | refine WRun.region ?_ | refine WRun.seq (WRun.seq (WRun.seq (WRun.region ?_)))); ((repeat (first | refine WOps.a rfl (by simp only [reduceIte, Nat.reduceEqDiff, Nat.reduceAdd, Bm, t6, ad] <;> rfl) ?_ | refine WOps.b rfl rfl rfl (by simp only [reduceIte, Nat.reduceEqDiff, Nat.reduceAdd, Bm, t6, ad] <;> rfl) ?_)); refine WOps.nil ?_)
        refine ⟨rfl, m - 1, by omega, x + 1, by omega, rfl, (by simp only [reduceIte, Nat.reduceEqDiff, Nat.reduceAdd, Bm, t0] <;> rfl), (by simp only [reduceIte, Nat.reduceEqDiff, Nat.reduceAdd, Bm, t5] <;> rfl), (by simp only [reduceIte, Nat.reduceEqDiff, Nat.reduceAdd, Bm, t6] <;> rfl), fun i hi => ?_⟩
        by_cases e : i = x
        · subst e; have := of_decide_eq_true d; omega
        · exact hid i (by omega)
    · have hlt : ((x : Int) < (n : Int)) = False := by simp; omega
      (first | refine WRun.seq (WRun.region ?_) | refine WRun.seq (WRun.seq (WRun.region ?_)) | refine WRun.region ?_ | refine WRun.seq (WRun.seq (WRun.seq (WRun.region ?_)))); ((repeat (first | refine WOps.a rfl (by simp only [reduceIte, Nat.reduceEqDiff, Nat.reduceAdd, Bm, t5, t6, hlt] <;> rfl) ?_ | refine WOps.b rfl rfl rfl (by simp only [reduceIte, Nat.reduceEqDiff, Nat.reduceAdd, Bm, t5, t6, hlt] <;> rfl) ?_)); refine WOps.nil ?_)
      (first | refine WRun.condF (by simp only [reduceIte, Nat.reduceEqDiff, Nat.reduceAdd, Bm, hlt] <;> rfl) ?_ | refine WRun.seq (WRun.condF (by simp only [reduceIte, Nat.reduceEqDiff, Nat.reduceAdd, Bm, hlt] <;> rfl) ?_))
      refine WRun.exit ?_
      (first | refine WRun.seq (WRun.region ?_) | refine WRun.seq (WRun.seq (WRun.region ?_)) | refine WRun.region ?_ | refine WRun.seq (WRun.seq (WRun.seq (WRun.region ?_)))); ((repeat (first | refine WOps.a rfl (by simp only [reduceIte, Nat.reduceEqDiff, Nat.reduceAdd, Bm, t0] <;> rfl) ?_ | refine WOps.b rfl rfl rfl (by simp only [reduceIte, Nat.reduceEqDiff, Nat.reduceAdd, Bm, t0] <;> rfl) ?_)); refine WOps.nil ?_)
      have hf : bb = true := hbb.2 fun i hi => hid i (by omega)
      exact WRun.ret ⟨trivial, rfl, rfl, by rw [hf]; exact (by simp only [reduceIte, Nat.reduceEqDiff, Nat.reduceAdd, Bm, t0] <;> rfl)⟩
  exact WRun.calls1 (r := 2) hS Tryz.fn41 rfl rfl rfl rfl key
end Go.Proofs
namespace Go.Proofs
open Go.Ev
set_option maxRecDepth 100000
/-- The second axiom. -/
def Inj (n : Nat) (E : Nat → Nat → Nat) : Prop := ∀ y, y < n → ∀ i j, i < n → j < n → E i y = E j y → i = j
theorem Tryz.c42 {S : Summ} (hS : S.get 42 = none) {h : AH} (low : ∀ b x, h.t.get b = some x → b < h.next) {tv : AV} {n : Nat} {R : Nat → AV} {E : Nat → Nat → Nat} (q : SqT h tv n R E) (hn : n ≤ 30) {bb : Bool} (hbb : bb = true ↔ Inj n E) : RunCall Tryz.ctx S 42 [tv] h ⟨.bool bb, h⟩ := by
  have key : WRun Tryz.ctx S 42 Tryz.f42.ntmps none (Tryz.f42.body.getD .skip) (argsT [tv] 0 .leaf) [] ⟨h.t, h.next, h.next, []⟩ fun e T df h' => (match e with | .norm => True | .ret => True | _ => False) ∧ df = [] ∧ h'.log = [] ∧ T.get 2 = some (.bool bb) := by
    have hO := Mine.start low
    have g0 : (argsT [tv] 0 .leaf).get 0 = some tv := rfl
    generalize argsT [tv] 0 .leaf = T at g0
    (first | refine WRun.seq (WRun.region ?_) | refine WRun.seq (WRun.seq (WRun.region ?_)) | refine WRun.region ?_ | refine WRun.seq (WRun.seq (WRun.seq (WRun.region ?_)))); ((repeat (first | refine WOps.a rfl (by simp only [reduceIte, Nat.reduceEqDiff, Nat.reduceAdd, Bm, g0] <;> rfl) ?_ | refine WOps.b rfl rfl rfl (by simp only [reduceIte, Nat.reduceEqDiff, Nat.reduceAdd, Bm, g0] <;> rfl) ?_)); refine WOps.nil ?_)
    have ql := q.len
    (first | refine WRun.seq (WRun.region ?_) | refine WRun.seq (WRun.seq (WRun.region ?_)) | refine WRun.region ?_ | refine WRun.seq (WRun.seq (WRun.seq (WRun.region ?_)))); ((repeat (first | refine WOps.a rfl (by simp only [reduceIte, Nat.reduceEqDiff, Nat.reduceAdd, Bm, g0, ql] <;> rfl) ?_ | refine WOps.b rfl rfl rfl (by simp only [reduceIte, Nat.reduceEqDiff, Nat.reduceAdd, Bm, g0, ql] <;> rfl) ?_)); refine WOps.nil ?_)
    refine WRun.block ?_
    refine WRun.loop (I := fun m T h' => ∃ y : Nat, m + y = n ∧ Mine h h' ∧ T.get 0 = some tv ∧ T.get 7 = some (.int .i64 n) ∧ T.get 8 = some (.int .i64 y) ∧ (∀ c, c < y → ∀ i j, i < n → j < n → E i c = E j c → i = j)) (m := n) ?_ ⟨0, by omega, hO, (by simp only [reduceIte, Nat.reduceEqDiff, Nat.reduceAdd, Bm, g0] <;> rfl), (by simp only [reduceIte, Nat.reduceEqDiff, Nat.reduceAdd, Bm, g0] <;> rfl), (by simp only [reduceIte, Nat.reduceEqDiff, Nat.reduceAdd, Bm, g0] <;> rfl), fun c hc => by omega⟩
    rintro m T h1 ⟨y, hm, O1, t0, t7, t8, hA⟩
    by_cases hy : y < n
    · have hlt : ((y : Int) < (n : Int)) = True := by simp; exact hy
      have ad := add1 y (by omega)
      (first | refine WRun.seq (WRun.region ?_) | refine WRun.seq (WRun.seq (WRun.region ?_)) | refine WRun.region ?_ | refine WRun.seq (WRun.seq (WRun.seq (WRun.region ?_)))); ((repeat (first | refine WOps.a rfl (by simp only [reduceIte, Nat.reduceEqDiff, Nat.reduceAdd, Bm, t7, t8, hlt] <;> rfl) ?_ | refine WOps.b rfl rfl rfl (by simp only [reduceIte, Nat.reduceEqDiff, Nat.reduceAdd, Bm, t7, t8, hlt] <;> rfl) ?_)); refine WOps.nil ?_)
      (first | refine WRun.condT (by simp only [reduceIte, Nat.reduceEqDiff, Nat.reduceAdd, Bm, hlt] <;> rfl) ?_ | refine WRun.seq (WRun.condT (by simp only [reduceIte, Nat.reduceEqDiff, Nat.reduceAdd, Bm, hlt] <;> rfl) ?_))
      refine WRun.skip ?_
      refine WRun.seq (WRun.block ?_)
      (first | refine WRun.seq (WRun.region ?_) | refine WRun.seq (WRun.seq (WRun.region ?_)) | refine WRun.region ?_ | refine WRun.seq (WRun.seq (WRun.seq (WRun.region ?_)))); ((repeat (first | refine WOps.a rfl (by simp only [reduceIte, Nat.reduceEqDiff, Nat.reduceAdd, Bm, t8] <;> rfl) ?_ | refine WOps.b rfl rfl rfl (by simp only [reduceIte, Nat.reduceEqDiff, Nat.reduceAdd, Bm, t8] <;> rfl) ?_)); refine WOps.nil ?_)
      (first | refine WRun.seq (WRun.region ?_) | refine WRun.seq (WRun.seq (WRun.region ?_)) | refine WRun.region ?_ | refine WRun.seq (WRun.seq (WRun.seq (WRun.region ?_)))); ((repeat (first | refine WOps.a rfl (by simp only [reduceIte, Nat.reduceEqDiff, Nat.reduceAdd, Bm, t8] <;> rfl) ?_ | refine WOps.b rfl rfl rfl (by simp only [reduceIte, Nat.reduceEqDiff, Nat.reduceAdd, Bm, t8] <;> rfl) ?_)); refine WOps.nil ?_)
      (first | refine WRun.seq (WRun.region ?_) | refine WRun.seq (WRun.seq (WRun.region ?_)) | refine WRun.region ?_ | refine WRun.seq (WRun.seq (WRun.seq (WRun.region ?_)))); ((repeat (first | refine WOps.a rfl (by simp only [reduceIte, Nat.reduceEqDiff, Nat.reduceAdd, Bm, t0, ql] <;> rfl) ?_ | refine WOps.b rfl rfl rfl (by simp only [reduceIte, Nat.reduceEqDiff, Nat.reduceAdd, Bm, t0, ql] <;> rfl) ?_)); refine WOps.nil ?_)
      refine WRun.block ?_
      refine WRun.loop (I := fun m T h' => ∃ (x : Nat) (cs : List AV), m + x = n ∧ Mine h h' ∧ h1.next < h'.next ∧ h'.t.get h1.next = some (.cells cs (fzNew 133)) ∧ cs.length = 30 ∧ (∀ (i : Nat) (v : AV), cs[i]? = some v → ∃ bb, v = AV.bool bb) ∧ (∀ v : Nat, cs[v]? = some (.bool true) ↔ ∃ i, i < x ∧ E i y = v) ∧ (∀ i j, i < x → j < x → E i y = E j y → i = j) ∧ T.get 0 = some tv ∧ T.get 3 = some (.int .i64 y) ∧
        T.get 4 = some (.ptr h1.next 0) ∧ T.get 7 = some (.int .i64 n) ∧ T.get 8 = some (.int .i64 y) ∧ T.get 12 = some (.int .i64 n) ∧ T.get 13 = some (.int .i64 x)) (m := n) ?_
        ⟨0, Tryz.y133.zero, by omega, O1.add _, by rw [next_add]; omega, by rw [get_add_self], rfl, ?_, ?_, fun i j hi => by omega, (by simp only [reduceIte, Nat.reduceEqDiff, Nat.reduceAdd, Bm, t0] <;> rfl), (by simp only [reduceIte, Nat.reduceEqDiff, Nat.reduceAdd, Bm, t8] <;> rfl), (by simp only [reduceIte, Nat.reduceEqDiff, Nat.reduceAdd, Bm, t0] <;> rfl), (by simp only [reduceIte, Nat.reduceEqDiff, Nat.reduceAdd, Bm, t7] <;> rfl), (by simp only [reduceIte, Nat.reduceEqDiff, Nat.reduceAdd, Bm, t8] <;> rfl), (by simp only [reduceIte, Nat.reduceEqDiff, Nat.reduceAdd, Bm, t0] <;> rfl), (by simp only [reduceIte, Nat.reduceEqDiff, Nat.reduceAdd, Bm, t0] <;> rfl)⟩
      rotate_left
      · intro i v hv
        have : v ∈ Tryz.y133.zero := List.mem_of_getElem? hv
        have e : Tryz.y133.zero = List.replicate 30 (.bool false) := rfl
        rw [e] at this
        exact ⟨false, (List.mem_replicate.1 this).2⟩
      · intro v
        have e : Tryz.y133.zero = List.replicate 30 (.bool false) := rfl
        rw [e]
        constructor
        · intro hv
          have := (List.mem_replicate.1 (List.mem_of_getElem? hv)).2
          cases this
        · rintro ⟨i, hi, _⟩; omega
      rintro m2 T h2 ⟨x, cs, hm2, O2, hnx, hblk, hcl, hcb, hcs, hd, t0, t3, t4, t7, t8, t12, t13⟩
      by_cases hx : x < n
      · have hlt : ((x : Int) < (n : Int)) = True := by simp; exact hx
        have ad := add1 x (by omega)
        (first | refine WRun.seq (WRun.region ?_) | refine WRun.seq (WRun.seq (WRun.region ?_)) | refine WRun.region ?_ | refine WRun.seq (WRun.seq (WRun.seq (WRun.region ?_)))); ((repeat (first | refine WOps.a rfl (by simp only [reduceIte, Nat.reduceEqDiff, Nat.reduceAdd, Bm, t12, t13, hlt] <;> rfl) ?_ | refine WOps.b rfl rfl rfl (by simp only [reduceIte, Nat.reduceEqDiff, Nat.reduceAdd, Bm, t12, t13, hlt] <;> rfl) ?_)); refine WOps.nil ?_)
        (first | refine WRun.condT (by simp only [reduceIte, Nat.reduceEqDiff, Nat.reduceAdd, Bm, hlt] <;> rfl) ?_ | refine WRun.seq (WRun.condT (by simp only [reduceIte, Nat.reduceEqDiff, Nat.reduceAdd, Bm, hlt] <;> rfl) ?_))
        refine WRun.skip ?_
        refine WRun.seq (WRun.block ?_)
        (first | refine WRun.seq (WRun.region ?_) | refine WRun.seq (WRun.seq (WRun.region ?_)) | refine WRun.region ?_ | refine WRun.seq (WRun.seq (WRun.seq (WRun.region ?_)))); ((repeat (first | refine WOps.a rfl (by simp only [reduceIte, Nat.reduceEqDiff, Nat.reduceAdd, Bm, t13] <;> rfl) ?_ | refine WOps.b rfl rfl rfl (by simp only [reduceIte, Nat.reduceEqDiff, Nat.reduceAdd, Bm, t13] <;> rfl) ?_)); refine WOps.nil ?_)
        obtain ⟨b1, o1, a1, l1⟩ := q.row x hx h2 O2.ext
        obtain ⟨b2, o2, a2, l2⟩ := q.ent x y hx hy h2 O2.ext
        have hE := q.lt x y hx hy
        have hE30 : E x y < 30 := by omega
        have ar : evIndexAddr Tryz.ctx.ty Tryz.y133 (.ptr h1.next 0) (.int .i64 (E x y : Nat)) h2 = .val (.ptr h1.next (0 + E x y)) h2 := indexArr (n := 30) (e := 4) (ae := Tryz.y4) rfl Tryz.ty4 rfl hE30
        obtain ⟨w, hw⟩ : ∃ w, cs[E x y]? = some w := ⟨_, List.getElem?_eq_getElem (by omega)⟩
        obtain ⟨wb, rfl⟩ := hcb _ _ hw
        have ld : evLoad Tryz.y4 (.ptr h1.next (0 + E x y)) h2 = .val (.bool wb) h2 := load_word rfl hblk (by rw [Nat.zero_add]; exact hw)
        rw [Nat.zero_add] at ar ld
        (first | refine WRun.seq (WRun.region ?_) | refine WRun.seq (WRun.seq (WRun.region ?_)) | refine WRun.region ?_ | refine WRun.seq (WRun.seq (WRun.seq (WRun.region ?_)))); ((repeat (first | refine WOps.a rfl (by simp only [reduceIte, Nat.reduceEqDiff, Nat.reduceAdd, Bn, t0, t3, t4, t13, a1, l1, a2, l2, ar, ld] <;> rfl) ?_ | refine WOps.b rfl rfl rfl (by simp only [reduceIte, Nat.reduceEqDiff, Nat.reduceAdd, Bn, t0, t3, t4, t13, a1, l1, a2, l2, ar, ld] <;> rfl) ?_)); refine WOps.nil ?_)
        cases wb with
        | true =>
          (first | refine WRun.condT (by simp only [reduceIte, Nat.reduceEqDiff, Nat.reduceAdd, Bm, t0] <;> rfl) ?_ | refine WRun.seq (WRun.condT (by simp only [reduceIte, Nat.reduceEqDiff, Nat.reduceAdd, Bm, t0] <;> rfl) ?_))
          (first | refine WRun.seq (WRun.region ?_) | refine WRun.seq (WRun.seq (WRun.region ?_)) | refine WRun.region ?_ | refine WRun.seq (WRun.seq (WRun.seq (WRun.region ?_)))); ((repeat (first | refine WOps.a rfl (by simp only [reduceIte, Nat.reduceEqDiff, Nat.reduceAdd, Bm, t0] <;> rfl) ?_ | refine WOps.b rfl rfl rfl (by simp only [reduceIte, Nat.reduceEqDiff, Nat.reduceAdd, Bm, t0] <;> rfl) ?_)); refine WOps.nil ?_)
          have hf : bb = false := by
            cases bb with
            | false => rfl
            | true =>
              obtain ⟨i, hi, he⟩ := (hcs (E x y)).1 hw
              have := hbb.1 rfl y hy i x (by omega) hx he
              omega
          exact WRun.ret ⟨trivial, rfl, O2.log, by rw [hf]; exact (by simp only [reduceIte, Nat.reduceEqDiff, Nat.reduceAdd, Bm, t0] <;> rfl)⟩
        | false =>
          (first | refine WRun.condF (by simp only [reduceIte, Nat.reduceEqDiff, Nat.reduceAdd, Bm, t0] <;> rfl) ?_ | refine WRun.seq (WRun.condF (by simp only [reduceIte, Nat.reduceEqDiff, Nat.reduceAdd, Bm, t0] <;> rfl) ?_))
          refine WRun.skip ?_
          have hfz : fzNew 133 / 65536 ≤ E x y := by have : fzNew 133 / 65536 = 0 := by decide +kernel
                                                     omega
          have st : evStore Tryz.y4 (.ptr h1.next (E x y)) (.bool true) h2 = .skip (h2.set h1.next (.cells (cs.set (E x y) (.bool true)) (fzNew 133))) := store_word rfl rfl rfl hblk hfz (by omega)
          (first | refine WRun.seq (WRun.region ?_) | refine WRun.seq (WRun.seq (WRun.region ?_)) | refine WRun.region ?_ | refine WRun.seq (WRun.seq (WRun.seq (WRun.region ?_)))); ((repeat (first | refine WOps.a rfl (by simp only [reduceIte, Nat.reduceEqDiff, Nat.reduceAdd, Bn, t0, t3, t4, t13, a1, l1, a2, l2, ar, op_storeE, st] <;> rfl) ?_ | refine WOps.b rfl rfl rfl (by simp only [reduceIte, Nat.reduceEqDiff, Nat.reduceAdd, Bn, t0, t3, t4, t13, a1, l1, a2, l2, ar, op_storeE, st] <;> rfl) ?_)); refine WOps.nil ?_)
          (first | refine WRun.seq (WRun.region ?_) | refine WRun.seq (WRun.seq (WRun.region ?_)) | refine WRun.region ?_ | refine WRun.seq (WRun.seq (WRun.seq (WRun.region ?_)))); ((repeat (first | refine WOps.a rfl (by simp only [reduceIte, Nat.reduceEqDiff, Nat.reduceAdd, Bm, t13, ad] <;> rfl) ?_ | refine WOps.b rfl rfl rfl (by simp only [reduceIte, Nat.reduceEqDiff, Nat.reduceAdd, Bm, t13, ad] <;> rfl) ?_)); refine WOps.nil ?_)
          refine ⟨rfl, m2 - 1, by omega, x + 1, cs.set (E x y) (.bool true), by omega, O2.set (by have := O1.next; omega) hnx _, by rw [next_set]; exact hnx, by rw [get_set, if_pos rfl], by rw [List.length_set]; exact hcl, ?_, ?_, ?_, (by simp only [reduceIte, Nat.reduceEqDiff, Nat.reduceAdd, Bm, t0] <;> rfl), (by simp only [reduceIte, Nat.reduceEqDiff, Nat.reduceAdd, Bm, t3] <;> rfl), (by simp only [reduceIte, Nat.reduceEqDiff, Nat.reduceAdd, Bm, t4] <;> rfl), (by simp only [reduceIte, Nat.reduceEqDiff, Nat.reduceAdd, Bm, t7] <;> rfl), (by simp only [reduceIte, Nat.reduceEqDiff, Nat.reduceAdd, Bm, t8] <;> rfl), (by simp only [reduceIte, Nat.reduceEqDiff, Nat.reduceAdd, Bm, t12] <;> rfl), (by simp only [reduceIte, Nat.reduceEqDiff, Nat.reduceAdd, Bm, t13] <;> rfl)⟩
          · intro i v hv
            rw [List.getElem?_set] at hv
            split at hv
            · split at hv
              · cases hv; exact ⟨true, rfl⟩
              · cases hv
            · exact hcb i v hv
          · intro v
            rw [List.getElem?_set]
            by_cases e : E x y = v
            · rw [if_pos e, if_pos (by omega)]
              exact ⟨fun _ => ⟨x, by omega, e⟩, fun _ => rfl⟩
            · rw [if_neg e, hcs v]
              constructor
              · rintro ⟨i, hi, he⟩; exact ⟨i, by omega, he⟩
              · rintro ⟨i, hi, he⟩
                refine ⟨i, ?_, he⟩
                by_cases q' : i = x
                · subst q'; exact absurd he e
                · omega
          · have hno : ¬ ∃ i, i < x ∧ E i y = E x y := fun z => by
              have := (hcs (E x y)).2 z
              rw [hw] at this; cases this
            intro i j hi hj he
            by_cases e1 : i = x
            · by_cases e2 : j = x
              · omega
              · exact absurd ⟨j, by omega, by rw [← he, e1]⟩ hno
            · by_cases e2 : j = x
              · exact absurd ⟨i, by omega, by rw [he, e2]⟩ hno
              · exact hd i j (by omega) (by omega) he
      · have hlt : ((x : Int) < (n : Int)) = False := by simp; omega
        (first | refine WRun.seq (WRun.region ?_) | refine WRun.seq (WRun.seq (WRun.region ?_)) | refine WRun.region ?_ | refine WRun.seq (WRun.seq (WRun.seq (WRun.region ?_)))); ((repeat (first | refine WOps.a rfl (by simp only [reduceIte, Nat.reduceEqDiff, Nat.reduceAdd, Bm, t12, t13, hlt] <;> rfl) ?_ | refine WOps.b rfl rfl rfl (by simp only [reduceIte, Nat.reduceEqDiff, Nat.reduceAdd, Bm, t12, t13, hlt] <;> rfl) ?_)); refine WOps.nil ?_)
        (first | refine WRun.condF (by simp only [reduceIte, Nat.reduceEqDiff, Nat.reduceAdd, Bm, hlt] <;> rfl) ?_ | refine WRun.seq (WRun.condF (by simp only [reduceIte, Nat.reduceEqDiff, Nat.reduceAdd, Bm, hlt] <;> rfl) ?_))
        refine WRun.exit ?_
        (first | refine WRun.seq (WRun.region ?_) | refine WRun.seq (WRun.seq (WRun.region ?_)) | refine WRun.region ?_ | refine WRun.seq (WRun.seq (WRun.seq (WRun.region ?_)))); ((repeat (first | refine WOps.a rfl (by simp only [reduceIte, Nat.reduceEqDiff, Nat.reduceAdd, Bm, t8, ad] <;> rfl) ?_ | refine WOps.b rfl rfl rfl (by simp only [reduceIte, Nat.reduceEqDiff, Nat.reduceAdd, Bm, t8, ad] <;> rfl) ?_)); refine WOps.nil ?_)
        refine ⟨rfl, m - 1, by omega, y + 1, by omega, O2, (by simp only [reduceIte, Nat.reduceEqDiff, Nat.reduceAdd, Bm, t0] <;> rfl), (by simp only [reduceIte, Nat.reduceEqDiff, Nat.reduceAdd, Bm, t7] <;> rfl), (by simp only [reduceIte, Nat.reduceEqDiff, Nat.reduceAdd, Bm, t8] <;> rfl), fun c hc i j hi hj he => ?_⟩
        by_cases e : c = y
        · subst e; exact hd i j (by omega) (by omega) he
        · exact hA c (by omega) i j hi hj he
    · have hlt : ((y : Int) < (n : Int)) = False := by simp; omega
      (first | refine WRun.seq (WRun.region ?_) | refine WRun.seq (WRun.seq (WRun.region ?_)) | refine WRun.region ?_ | refine WRun.seq (WRun.seq (WRun.seq (WRun.region ?_)))); ((repeat (first | refine WOps.a rfl (by simp only [reduceIte, Nat.reduceEqDiff, Nat.reduceAdd, Bm, t7, t8, hlt] <;> rfl) ?_ | refine WOps.b rfl rfl rfl (by simp only [reduceIte, Nat.reduceEqDiff, Nat.reduceAdd, Bm, t7, t8, hlt] <;> rfl) ?_)); refine WOps.nil ?_)
      (first | refine WRun.condF (by simp only [reduceIte, Nat.reduceEqDiff, Nat.reduceAdd, Bm, hlt] <;> rfl) ?_ | refine WRun.seq (WRun.condF (by simp only [reduceIte, Nat.reduceEqDiff, Nat.reduceAdd, Bm, hlt] <;> rfl) ?_))
      refine WRun.exit ?_
      (first | refine WRun.seq (WRun.region ?_) | refine WRun.seq (WRun.seq (WRun.region ?_)) | refine WRun.region ?_ | refine WRun.seq (WRun.seq (WRun.seq (WRun.region ?_)))); ((repeat (first | refine WOps.a rfl (by simp only [reduceIte, Nat.reduceEqDiff, Nat.reduceAdd, Bm, t0] <;> rfl) ?_ | refine WOps.b rfl rfl rfl (by simp only [reduceIte, Nat.reduceEqDiff, Nat.reduceAdd, Bm, t0] <;> rfl) ?_)); refine WOps.nil ?_)
      have hf : bb = true := hbb.2 fun c hc i j hi hj he => hA c (by omega) i j hi hj he
      exact WRun.ret ⟨trivial, rfl, O1.log, by rw [hf]; exact (by simp only [reduceIte, Nat.reduceEqDiff, Nat.reduceAdd, Bm, t0] <;> rfl)⟩
  exact WRun.calls1 (r := 2) hS Tryz.fn42 rfl rfl rfl rfl key
end Go.Proofs
namespace Go.Proofs
open Go.Ev
set_option maxRecDepth 100000
/-- The third axiom. -/
def Dist (n : Nat) (E : Nat → Nat → Nat) : Prop := ∀ x y z, x < n → y < n → z < n → E (E x y) z = E (E x z) (E y z)
theorem Tryz.c43 {S : Summ} (hS : S.get 43 = none) {h : AH} {tv : AV} {n : Nat} {R : Nat → AV} {E : Nat → Nat → Nat} (q : SqT h tv n R E) (hn : n ≤ 30) {bb : Bool} (hbb : bb = true ↔ Dist n E) : RunCall Tryz.ctx S 43 [tv] h ⟨.bool bb, h⟩ := by
  have key : WRun Tryz.ctx S 43 Tryz.f43.ntmps none (Tryz.f43.body.getD .skip) (argsT [tv] 0 .leaf) [] ⟨h.t, h.next, h.next, []⟩ fun e T df h' => (match e with | .norm => True | .ret => True | _ => False) ∧ df = [] ∧ h'.log = [] ∧ T.get 2 = some (.bool bb) := by
    have hX : Ext h ⟨h.t, h.next, h.next, []⟩ := fun _ _ e => e
    have g0 : (argsT [tv] 0 .leaf).get 0 = some tv := rfl
    generalize argsT [tv] 0 .leaf = T at g0
    (first | refine WRun.seq (WRun.region ?_) | refine WRun.seq (WRun.seq (WRun.region ?_)) | refine WRun.region ?_ | refine WRun.seq (WRun.seq (WRun.seq (WRun.region ?_)))); ((repeat (first | refine WOps.a rfl (by simp only [reduceIte, Nat.reduceEqDiff, Nat.reduceAdd, Bm, g0] <;> rfl) ?_ | refine WOps.b rfl rfl rfl (by simp only [reduceIte, Nat.reduceEqDiff, Nat.reduceAdd, Bm, g0] <;> rfl) ?_)); refine WOps.nil ?_)
    have ql := q.len
    (first | refine WRun.seq (WRun.region ?_) | refine WRun.seq (WRun.seq (WRun.region ?_)) | refine WRun.region ?_ | refine WRun.seq (WRun.seq (WRun.seq (WRun.region ?_)))); ((repeat (first | refine WOps.a rfl (by simp only [reduceIte, Nat.reduceEqDiff, Nat.reduceAdd, Bm, g0, ql] <;> rfl) ?_ | refine WOps.b rfl rfl rfl (by simp only [reduceIte, Nat.reduceEqDiff, Nat.reduceAdd, Bm, g0, ql] <;> rfl) ?_)); refine WOps.nil ?_)
    refine WRun.block ?_
    refine WRun.loop (I := fun m T h' => ∃ x : Nat, m + x = n ∧ h' = ⟨h.t, h.next, h.next, []⟩ ∧ T.get 0 = some tv ∧ T.get 7 = some (.int .i64 n) ∧ T.get 8 = some (.int .i64 x) ∧ (∀ a b c, a < x → b < n → c < n → E (E a b) c = E (E a c) (E b c))) (m := n) ?_ ⟨0, by omega, rfl, (by simp only [reduceIte, Nat.reduceEqDiff, Nat.reduceAdd, Bm, g0] <;> rfl), (by simp only [reduceIte, Nat.reduceEqDiff, Nat.reduceAdd, Bm, g0] <;> rfl), (by simp only [reduceIte, Nat.reduceEqDiff, Nat.reduceAdd, Bm, g0] <;> rfl), fun a b c ha => by omega⟩
    rintro m T _ ⟨x, hm, rfl, t0, t7, t8, hA⟩
    by_cases hx : x < n
    · have hlt : ((x : Int) < (n : Int)) = True := by simp; exact hx
      have ad := add1 x (by omega)
      (first | refine WRun.seq (WRun.region ?_) | refine WRun.seq (WRun.seq (WRun.region ?_)) | refine WRun.region ?_ | refine WRun.seq (WRun.seq (WRun.seq (WRun.region ?_)))); ((repeat (first | refine WOps.a rfl (by simp only [reduceIte, Nat.reduceEqDiff, Nat.reduceAdd, Bm, t7, t8, hlt] <;> rfl) ?_ | refine WOps.b rfl rfl rfl (by simp only [reduceIte, Nat.reduceEqDiff, Nat.reduceAdd, Bm, t7, t8, hlt] <;> rfl) ?_)); refine WOps.nil ?_)
      (first | refine WRun.condT (by simp only [reduceIte, Nat.reduceEqDiff, Nat.reduceAdd, Bm, hlt] <;> rfl) ?_ | refine WRun.seq (WRun.condT (by simp only [reduceIte, Nat.reduceEqDiff, Nat.reduceAdd, Bm, hlt] <;> rfl) ?_))
      refine WRun.skip ?_
      refine WRun.seq (WRun.block ?_)
      (first | refine WRun.seq (WRun.region ?_) | refine WRun.seq (WRun.seq (WRun.region ?_)) | refine WRun.region ?_ | refine WRun.seq (WRun.seq (WRun.seq (WRun.region ?_)))); ((repeat (first | refine WOps.a rfl (by simp only [reduceIte, Nat.reduceEqDiff, Nat.reduceAdd, Bm, t8] <;> rfl) ?_ | refine WOps.b rfl rfl rfl (by simp only [reduceIte, Nat.reduceEqDiff, Nat.reduceAdd, Bm, t8] <;> rfl) ?_)); refine WOps.nil ?_)
      (first | refine WRun.seq (WRun.region ?_) | refine WRun.seq (WRun.seq (WRun.region ?_)) | refine WRun.region ?_ | refine WRun.seq (WRun.seq (WRun.seq (WRun.region ?_)))); ((repeat (first | refine WOps.a rfl (by simp only [reduceIte, Nat.reduceEqDiff, Nat.reduceAdd, Bm, t0, ql] <;> rfl) ?_ | refine WOps.b rfl rfl rfl (by simp only [reduceIte, Nat.reduceEqDiff, Nat.reduceAdd, Bm, t0, ql] <;> rfl) ?_)); refine WOps.nil ?_)
      refine WRun.block ?_
      refine WRun.loop (I := fun m T h' => ∃ y : Nat, m + y = n ∧ h' = ⟨h.t, h.next, h.next, []⟩ ∧ T.get 0 = some tv ∧ T.get 3 = some (.int .i64 x) ∧ T.get 7 = some (.int .i64 n) ∧ T.get 8 = some (.int .i64 x) ∧ T.get 12 = some (.int .i64 n) ∧ T.get 13 = some (.int .i64 y) ∧ (∀ b c, b < y → c < n → E (E x b) c = E (E x c) (E b c))) (m := n) ?_
        ⟨0, by omega, rfl, (by simp only [reduceIte, Nat.reduceEqDiff, Nat.reduceAdd, Bm, t0] <;> rfl), (by simp only [reduceIte, Nat.reduceEqDiff, Nat.reduceAdd, Bm, t8] <;> rfl), (by simp only [reduceIte, Nat.reduceEqDiff, Nat.reduceAdd, Bm, t7] <;> rfl), (by simp only [reduceIte, Nat.reduceEqDiff, Nat.reduceAdd, Bm, t8] <;> rfl), (by simp only [reduceIte, Nat.reduceEqDiff, Nat.reduceAdd, Bm, t0] <;> rfl), (by simp only [reduceIte, Nat.reduceEqDiff, Nat.reduceAdd, Bm, t0] <;> rfl), fun b c hb => by omega⟩
      rintro m2 T _ ⟨y, hm2, rfl, t0, t3, t7, t8, t12, t13, hB⟩
      by_cases hy : y < n
      · have hlt : ((y : Int) < (n : Int)) = True := by simp; exact hy
        have ad := add1 y (by omega)
        (first | refine WRun.seq (WRun.region ?_) | refine WRun.seq (WRun.seq (WRun.region ?_)) | refine WRun.region ?_ | refine WRun.seq (WRun.seq (WRun.seq (WRun.region ?_)))); ((repeat (first | refine WOps.a rfl (by simp only [reduceIte, Nat.reduceEqDiff, Nat.reduceAdd, Bm, t12, t13, hlt] <;> rfl) ?_ | refine WOps.b rfl rfl rfl (by simp only [reduceIte, Nat.reduceEqDiff, Nat.reduceAdd, Bm, t12, t13, hlt] <;> rfl) ?_)); refine WOps.nil ?_)
        (first | refine WRun.condT (by simp only [reduceIte, Nat.reduceEqDiff, Nat.reduceAdd, Bm, hlt] <;> rfl) ?_ | refine WRun.seq (WRun.condT (by simp only [reduceIte, Nat.reduceEqDiff, Nat.reduceAdd, Bm, hlt] <;> rfl) ?_))
        refine WRun.skip ?_
        refine WRun.seq (WRun.block ?_)
        (first | refine WRun.seq (WRun.region ?_) | refine WRun.seq (WRun.seq (WRun.region ?_)) | refine WRun.region ?_ | refine WRun.seq (WRun.seq (WRun.seq (WRun.region ?_)))); ((repeat (first | refine WOps.a rfl (by simp only [reduceIte, Nat.reduceEqDiff, Nat.reduceAdd, Bm, t13] <;> rfl) ?_ | refine WOps.b rfl rfl rfl (by simp only [reduceIte, Nat.reduceEqDiff, Nat.reduceAdd, Bm, t13] <;> rfl) ?_)); refine WOps.nil ?_)
        (first | refine WRun.seq (WRun.region ?_) | refine WRun.seq (WRun.seq (WRun.region ?_)) | refine WRun.region ?_ | refine WRun.seq (WRun.seq (WRun.seq (WRun.region ?_)))); ((repeat (first | refine WOps.a rfl (by simp only [reduceIte, Nat.reduceEqDiff, Nat.reduceAdd, Bm, t0, ql] <;> rfl) ?_ | refine WOps.b rfl rfl rfl (by simp only [reduceIte, Nat.reduceEqDiff, Nat.reduceAdd, Bm, t0, ql] <;> rfl) ?_)); refine WOps.nil ?_)
        refine WRun.block ?_
        refine WRun.loop (I := fun m T h' => ∃ z : Nat, m + z = n ∧ h' = ⟨h.t, h.next, h.next, []⟩ ∧ T.get 0 = some tv ∧ T.get 3 = some (.int .i64 x) ∧ T.get 4 = some (.int .i64 y) ∧ T.get 7 = some (.int .i64 n) ∧ T.get 8 = some (.int .i64 x) ∧ T.get 12 = some (.int .i64 n) ∧ T.get 13 = some (.int .i64 y) ∧
          T.get 17 = some (.int .i64 n) ∧ T.get 18 = some (.int .i64 z) ∧ (∀ c, c < z → E (E x y) c = E (E x c) (E y c))) (m := n) ?_
          ⟨0, by omega, rfl, (by simp only [reduceIte, Nat.reduceEqDiff, Nat.reduceAdd, Bm, t0] <;> rfl), (by simp only [reduceIte, Nat.reduceEqDiff, Nat.reduceAdd, Bm, t3] <;> rfl), (by simp only [reduceIte, Nat.reduceEqDiff, Nat.reduceAdd, Bm, t13] <;> rfl), (by simp only [reduceIte, Nat.reduceEqDiff, Nat.reduceAdd, Bm, t7] <;> rfl), (by simp only [reduceIte, Nat.reduceEqDiff, Nat.reduceAdd, Bm, t8] <;> rfl), (by simp only [reduceIte, Nat.reduceEqDiff, Nat.reduceAdd, Bm, t12] <;> rfl), (by simp only [reduceIte, Nat.reduceEqDiff, Nat.reduceAdd, Bm, t13] <;> rfl), (by simp only [reduceIte, Nat.reduceEqDiff, Nat.reduceAdd, Bm, t0] <;> rfl), (by simp only [reduceIte, Nat.reduceEqDiff, Nat.reduceAdd, Bm, t0] <;> rfl), fun c hc => by omega⟩
        rintro m3 T _ ⟨z, hm3, rfl, t0, t3, t4, t7, t8, t12, t13, t17, t18, hC⟩
        by_cases hz : z < n
        · have hlt : ((z : Int) < (n : Int)) = True := by simp; exact hz
          have ad := add1 z (by omega)
          (first | refine WRun.seq (WRun.region ?_) | refine WRun.seq (WRun.seq (WRun.region ?_)) | refine WRun.region ?_ | refine WRun.seq (WRun.seq (WRun.seq (WRun.region ?_)))); ((repeat (first | refine WOps.a rfl (by simp only [reduceIte, Nat.reduceEqDiff, Nat.reduceAdd, Bm, t17, t18, hlt] <;> rfl) ?_ | refine WOps.b rfl rfl rfl (by simp only [reduceIte, Nat.reduceEqDiff, Nat.reduceAdd, Bm, t17, t18, hlt] <;> rfl) ?_)); refine WOps.nil ?_)
          (first | refine WRun.condT (by simp only [reduceIte, Nat.reduceEqDiff, Nat.reduceAdd, Bm, hlt] <;> rfl) ?_ | refine WRun.seq (WRun.condT (by simp only [reduceIte, Nat.reduceEqDiff, Nat.reduceAdd, Bm, hlt] <;> rfl) ?_))
          refine WRun.skip ?_
          refine WRun.seq (WRun.block ?_)
          (first | refine WRun.seq (WRun.region ?_) | refine WRun.seq (WRun.seq (WRun.region ?_)) | refine WRun.region ?_ | refine WRun.seq (WRun.seq (WRun.seq (WRun.region ?_)))); ((repeat (first | refine WOps.a rfl (by simp only [reduceIte, Nat.reduceEqDiff, Nat.reduceAdd, Bm, t18] <;> rfl) ?_ | refine WOps.b rfl rfl rfl (by simp only [reduceIte, Nat.reduceEqDiff, Nat.reduceAdd, Bm, t18] <;> rfl) ?_)); refine WOps.nil ?_)
          have hxy := q.lt x y hx hy
          have hxz := q.lt x z hx hz
          have hyz := q.lt y z hy hz
          obtain ⟨b1, o1, a1, l1⟩ := q.row x hx ⟨h.t, h.next, h.next, []⟩ hX
          obtain ⟨b2, o2, a2, l2⟩ := q.ent x y hx hy ⟨h.t, h.next, h.next, []⟩ hX
          obtain ⟨b3, o3, a3, l3⟩ := q.row _ hxy ⟨h.t, h.next, h.next, []⟩ hX
          obtain ⟨b4, o4, a4, l4⟩ := q.ent _ z hxy hz ⟨h.t, h.next, h.next, []⟩ hX
          obtain ⟨b5, o5, a5, l5⟩ := q.ent x z hx hz ⟨h.t, h.next, h.next, []⟩ hX
          obtain ⟨b6, o6, a6, l6⟩ := q.row _ hxz ⟨h.t, h.next, h.next, []⟩ hX
          obtain ⟨b7, o7, a7, l7⟩ := q.row y hy ⟨h.t, h.next, h.next, []⟩ hX
          obtain ⟨b8, o8, a8, l8⟩ := q.ent y z hy hz ⟨h.t, h.next, h.next, []⟩ hX
          obtain ⟨b9, o9, a9, l9⟩ := q.ent _ _ hxz hyz ⟨h.t, h.next, h.next, []⟩ hX
          refine WRun.seq (WRun.regionD (by kernel_rfl) ?_)
          ((repeat (first | refine WOps.a rfl (by simp only [reduceIte, Nat.reduceEqDiff, Nat.reduceAdd, Bn, t0, t3, t4, t18, a1, l1, a2, l2, a3, l3, a4, l4, a5, l5, a6, l6, a7, l7, a8, l8, a9, l9] <;> rfl) ?_ | refine WOps.b rfl rfl rfl (by simp only [reduceIte, Nat.reduceEqDiff, Nat.reduceAdd, Bn, t0, t3, t4, t18, a1, l1, a2, l2, a3, l3, a4, l4, a5, l5, a6, l6, a7, l7, a8, l8, a9, l9] <;> rfl) ?_)); refine WOps.nil ?_)
          cases d : decide (((E (E x y) z : Nat) : Int) = ((E (E x z) (E y z) : Nat) : Int))
          · (first | refine WRun.condT (by simp only [reduceIte, Nat.reduceEqDiff, Nat.reduceAdd, Bm, d] <;> rfl) ?_ | refine WRun.seq (WRun.condT (by simp only [reduceIte, Nat.reduceEqDiff, Nat.reduceAdd, Bm, d] <;> rfl) ?_))
            (first | refine WRun.seq (WRun.region ?_) | refine WRun.seq (WRun.seq (WRun.region ?_)) | refine WRun.region ?_ | refine WRun.seq (WRun.seq (WRun.seq (WRun.region ?_)))); ((repeat (first | refine WOps.a rfl (by simp only [reduceIte, Nat.reduceEqDiff, Nat.reduceAdd, Bm, t0] <;> rfl) ?_ | refine WOps.b rfl rfl rfl (by simp only [reduceIte, Nat.reduceEqDiff, Nat.reduceAdd, Bm, t0] <;> rfl) ?_)); refine WOps.nil ?_)
            have hf : bb = false := by
              cases bb with
              | false => rfl
              | true => have := hbb.1 rfl x y z hx hy hz; rw [this] at d; simp at d
            exact WRun.ret ⟨trivial, rfl, rfl, by rw [hf]; exact (by simp only [reduceIte, Nat.reduceEqDiff, Nat.reduceAdd, Bm, t0] <;> rfl)⟩
          · (first | refine WRun.condF (by simp only [reduceIte, Nat.reduceEqDiff, Nat.reduceAdd, Bm, d] <;> rfl) ?_ | refine WRun.seq (WRun.condF (by simp only [reduceIte, Nat.reduceEqDiff, Nat.reduceAdd, Bm, d] <;> rfl) ?_))
            refine WRun.skip ?_
            (first | refine WRun.seq (WRun.region ?_) | refine WRun.seq (WRun.seq (WRun.region ?_)) | refine WRun.region ?_ | refine WRun.seq (WRun.seq (WRun.seq (WRun.region ?_)))); ((repeat (first | refine WOps.a rfl (by simp only [reduceIte, Nat.reduceEqDiff, Nat.reduceAdd, Bm, t18, ad] <;> rfl) ?_ | refine WOps.b rfl rfl rfl (by simp only [reduceIte, Nat.reduceEqDiff, Nat.reduceAdd, Bm, t18, ad] <;> rfl) ?_)); refine WOps.nil ?_)
            refine ⟨rfl, m3 - 1, by omega, z + 1, by omega, rfl, (by simp only [reduceIte, Nat.reduceEqDiff, Nat.reduceAdd, Bm, t0] <;> rfl), (by simp only [reduceIte, Nat.reduceEqDiff, Nat.reduceAdd, Bm, t3] <;> rfl), (by simp only [reduceIte, Nat.reduceEqDiff, Nat.reduceAdd, Bm, t4] <;> rfl), (by simp only [reduceIte, Nat.reduceEqDiff, Nat.reduceAdd, Bm, t7] <;> rfl), (by simp only [reduceIte, Nat.reduceEqDiff, Nat.reduceAdd, Bm, t8] <;> rfl), (by simp only [reduceIte, Nat.reduceEqDiff, Nat.reduceAdd, Bm, t12] <;> rfl), (by simp only [reduceIte, Nat.reduceEqDiff, Nat.reduceAdd, Bm, t13] <;> rfl), (by simp only [reduceIte, Nat.reduceEqDiff, Nat.reduceAdd, Bm, t17] <;> rfl), (by simp only [reduceIte, Nat.reduceEqDiff, Nat.reduceAdd, Bm, t18] <;> rfl), fun c hc => ?_⟩
            by_cases e : c = z
            · subst e; have := of_decide_eq_true d; omega
            · exact hC c (by omega)
        · have hlt : ((z : Int) < (n : Int)) = False := by simp; omega
          (first | refine WRun.seq (WRun.region ?_) | refine WRun.seq (WRun.seq (WRun.region ?_)) | refine WRun.region ?_ | refine WRun.seq (WRun.seq (WRun.seq (WRun.region ?_)))); ((repeat (first | refine WOps.a rfl (by simp only [reduceIte, Nat.reduceEqDiff, Nat.reduceAdd, Bm, t17, t18, hlt] <;> rfl) ?_ | refine WOps.b rfl rfl rfl (by simp only [reduceIte, Nat.reduceEqDiff, Nat.reduceAdd, Bm, t17, t18, hlt] <;> rfl) ?_)); refine WOps.nil ?_)
          (first | refine WRun.condF (by simp only [reduceIte, Nat.reduceEqDiff, Nat.reduceAdd, Bm, hlt] <;> rfl) ?_ | refine WRun.seq (WRun.condF (by simp only [reduceIte, Nat.reduceEqDiff, Nat.reduceAdd, Bm, hlt] <;> rfl) ?_))
          refine WRun.exit ?_
          (first | refine WRun.seq (WRun.region ?_) | refine WRun.seq (WRun.seq (WRun.region ?_)) | refine WRun.region ?_ | refine WRun.seq (WRun.seq (WRun.seq (WRun.region ?_)))); ((repeat (first | refine WOps.a rfl (by simp only [reduceIte, Nat.reduceEqDiff, Nat.reduceAdd, Bm, t13, ad] <;> rfl) ?_ | refine WOps.b rfl rfl rfl (by simp only [reduceIte, Nat.reduceEqDiff, Nat.reduceAdd, Bm, t13, ad] <;> rfl) ?_)); refine WOps.nil ?_)
          refine ⟨rfl, m2 - 1, by omega, y + 1, by omega, rfl, (by simp only [reduceIte, Nat.reduceEqDiff, Nat.reduceAdd, Bm, t0] <;> rfl), (by simp only [reduceIte, Nat.reduceEqDiff, Nat.reduceAdd, Bm, t3] <;> rfl), (by simp only [reduceIte, Nat.reduceEqDiff, Nat.reduceAdd, Bm, t7] <;> rfl), (by simp only [reduceIte, Nat.reduceEqDiff, Nat.reduceAdd, Bm, t8] <;> rfl), (by simp only [reduceIte, Nat.reduceEqDiff, Nat.reduceAdd, Bm, t12] <;> rfl), (by simp only [reduceIte, Nat.reduceEqDiff, Nat.reduceAdd, Bm, t13] <;> rfl), fun b c hb hc => ?_⟩
          by_cases e : b = y
          · subst e; exact hC c (by omega)
          · exact hB b c (by omega) hc
      · have hlt : ((y : Int) < (n : Int)) = False := by simp; omega
        (first | refine WRun.seq (WRun.region ?_) | refine WRun.seq (WRun.seq (WRun.region ?_)) | refine WRun.region ?_ | refine WRun.seq (WRun.seq (WRun.seq (WRun.region ?_)))); ((repeat (first | refine WOps.a rfl (by simp only [reduceIte, Nat.reduceEqDiff, Nat.reduceAdd, Bm, t12, t13, hlt] <;> rfl) ?_ | refine WOps.b rfl rfl rfl (by simp only [reduceIte, Nat.reduceEqDiff, Nat.reduceAdd, Bm, t12, t13, hlt] <;> rfl) ?_)); refine WOps.nil ?_)
        (first | refine WRun.condF (by simp only [reduceIte, Nat.reduceEqDiff, Nat.reduceAdd, Bm, hlt] <;> rfl) ?_ | refine WRun.seq (WRun.condF (by simp only [reduceIte, Nat.reduceEqDiff, Nat.reduceAdd, Bm, hlt] <;> rfl) ?_))
        refine WRun.exit ?_
        (first | refine WRun.seq (WRun.region ?_) | refine WRun.seq (WRun.seq (WRun.region ?_)) | refine WRun.region ?_ | refine WRun.seq (WRun.seq (WRun.seq (WRun.region ?_)))); ((repeat (first | refine WOps.a rfl (by simp only [reduceIte, Nat.reduceEqDiff, Nat.reduceAdd, Bm, t8, ad] <;> rfl) ?_ | refine WOps.b rfl rfl rfl (by simp only [reduceIte, Nat.reduceEqDiff, Nat.reduceAdd, Bm, t8, ad] <;> rfl) ?_)); refine WOps.nil ?_)
        refine ⟨rfl, m - 1, by omega, x + 1, by omega, rfl, (by simp only [reduceIte, Nat.reduceEqDiff, Nat.reduceAdd, Bm, t0] <;> rfl), (by simp only [reduceIte, Nat.reduceEqDiff, Nat.reduceAdd, Bm, t7] <;> rfl), (by simp only [reduceIte, Nat.reduceEqDiff, Nat.reduceAdd, Bm, t8] <;> rfl), fun a b c ha hb hc => ?_⟩
        by_cases e : a = x
        · subst e; exact hB b c (by omega) hc
        · exact hA a b c (by omega) hb hc
    · have hlt : ((x : Int) < (n : Int)) = False := by simp; omega
      (first | refine WRun.seq (WRun.region ?_) | refine WRun.seq (WRun.seq (WRun.region ?_)) | refine WRun.region ?_ | refine WRun.seq (WRun.seq (WRun.seq (WRun.region ?_)))); ((repeat (first | refine WOps.a rfl (by simp only [reduceIte, Nat.reduceEqDiff, Nat.reduceAdd, Bm, t7, t8, hlt] <;> rfl) ?_ | refine WOps.b rfl rfl rfl (by simp only [reduceIte, Nat.reduceEqDiff, Nat.reduceAdd, Bm, t7, t8, hlt] <;> rfl) ?_)); refine WOps.nil ?_)
      (first | refine WRun.condF (by simp only [reduceIte, Nat.reduceEqDiff, Nat.reduceAdd, Bm, hlt] <;> rfl) ?_ | refine WRun.seq (WRun.condF (by simp only [reduceIte, Nat.reduceEqDiff, Nat.reduceAdd, Bm, hlt] <;> rfl) ?_))
      refine WRun.exit ?_
      (first | refine WRun.seq (WRun.region ?_) | refine WRun.seq (WRun.seq (WRun.region ?_)) | refine WRun.region ?_ | refine WRun.seq (WRun.seq (WRun.seq (WRun.region ?_)))); ((repeat (first | refine WOps.a rfl (by simp only [reduceIte, Nat.reduceEqDiff, Nat.reduceAdd, Bm, t0] <;> rfl) ?_ | refine WOps.b rfl rfl rfl (by simp only [reduceIte, Nat.reduceEqDiff, Nat.reduceAdd, Bm, t0] <;> rfl) ?_)); refine WOps.nil ?_)
      have hf : bb = true := hbb.2 fun a b c ha hb hc => hA a b c (by omega) hb hc
      exact WRun.ret ⟨trivial, rfl, rfl, by rw [hf]; exact (by simp only [reduceIte, Nat.reduceEqDiff, Nat.reduceAdd, Bm, t0] <;> rfl)⟩
  exact WRun.calls1 (r := 2) hS Tryz.fn43 rfl rfl rfl rfl key
end Go.Proofs
