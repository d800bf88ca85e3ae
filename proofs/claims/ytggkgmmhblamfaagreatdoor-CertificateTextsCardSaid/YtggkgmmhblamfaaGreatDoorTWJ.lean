/- Part of the proof. -/
import Derived.Test.YtggkgmmhblamfaaGreatDoorTWI
set_option linter.all false
namespace Go.Proofs
open Go.Ev
set_option maxRecDepth 100000
theorem WRun.cutX {C : Ctx} {S : Summ} {fn : FuncId} {n : Nat} {rd : Option Nat} {T : PT AV} {df : List Nat} {h : AH} {a : Code} {Q : Post} {M : PT AV → AH → Prop}
    (H : WRun C S fn n rd a T df h fun e T1 df1 h1 => (e = .norm ∧ df1 = df ∧ M T1 h1) ∨ (e ≠ .norm ∧ Q e T1 df1 h1)) (hb : ∀ T1 h1, M T1 h1 → Q .norm T1 df h1) : WRun C S fn n rd a T df h Q :=
  H.mono fun e T1 df1 h1 h2 => by
    rcases h2 with ⟨rfl, rfl, h3⟩ | ⟨_, h3⟩
    · exact hb _ _ h3
    · exact h3
theorem splitL_pos (s p : List UInt8) : 1 ≤ (splitL s p).length := by
  rw [splitL_eq]
  cases Lib.count s p with
  | zero => exact Nat.le_refl _
  | succ k =>
    unfold Lib.splitK
    split
    · exact Nat.le_refl _
    · rw [List.length_cons]; omega
theorem _root_.Go.Ev.Mine.bump {h h' : AH} (o : Mine h h') {nx : Nat} (hn : h'.next ≤ nx) : Mine h ⟨h'.t, nx, h'.mark, h'.log⟩ :=
  ⟨o.ext, o.low, fun b x e => Nat.lt_of_lt_of_le (o.lowN b x e) hn, Nat.le_trans o.next hn, o.mark, o.log⟩
/-- What holds ahead of Format. -/
def Mid8 (Q : List UInt8 → List (List Int) → Prop) (h : AH) (s : List UInt8) (T : PT AV) (H : AH) : Prop :=
  T.get 0 = some (.str s) ∧ T.get 2 = some (.ptr h.next 0) ∧ T.get 7 = some (.ptr (h.next + 1) 0) ∧ Mine h H ∧ h.next + 2 ≤ H.next ∧ H.t.get h.next = some (.cells [.int .i64 0, .int .i64 0, .nils, .nils] (fzNew 27)) ∧
    ∃ k m tv cv t R l, H.t.get (h.next + 1) = some (.cells [.int .i64 k, .int .i64 m, tv, cv] (fzNew 27)) ∧ (∀ H' : AH, (∀ c, h.next + 2 ≤ c → H'.t.get c = H.t.get c) → PrV H' m tv cv t R l) ∧ NewV h.next tv t ∧ NewV h.next cv l ∧ Read Q s k m t l
theorem Tryz.c8 {S : Summ} {D : List UInt8 → Prop} {Q : List UInt8 → List (List Int) → Prop} (G : Gets S) (P : GetsP S) (h21 : Has21 S D Q) {h : AH} (low : ∀ b x, h.t.get b = some x → b < h.next) {s : List UInt8} (hs : s.length ≤ 10000) (hD : kindTo (Lib.cut s [32]).1 9 = 4 → D (Lib.cut s [32]).2.1) :
    ∃ pv x h', RunCall Tryz.ctx S 8 [.str s] h ⟨.tup [pv, .int .i64 x], h'⟩ ∧ Ext h h' ∧ (∀ b x, h'.t.get b = some x → b < h'.next) ∧ h.next ≤ h'.next ∧ h'.mark = h.mark ∧ h'.log = h.log ∧ Res8 Q h.next s h' x pv := by
  have key : WRun Tryz.ctx S 8 Tryz.f8.ntmps none (Tryz.f8.body.getD .skip) (argsT [.str s] 0 .leaf) [] ⟨h.t, h.next, h.next, []⟩ fun e T df h' => ∃ pv x, atEnd Tryz.ctx Tryz.f8 ⟨e, T, df, h'⟩ = .one ⟨.tup [pv, .int .i64 x], h'⟩ ∧ Mine h h' ∧ Res8 Q h.next s h' x pv := by
    have z27 : Tryz.y27.zero = [.int .i64 0, .int .i64 0, .nils, .nils] := rfl
    have fz28 : fzNew 27 = 28 := by decide +kernel
    have ls : ∀ h' : AH, evLen Tryz.ctx.ty Tryz.y9 (.str s) h' = some (.int .i64 s.length) := fun h' => len_strE rfl
    have hsl : decide ((65536 : Int) < (s.length : Int)) = false := by simp; omega
    have M1 := ((Mine.start low).add (.cells [.int .i64 0, .int .i64 0, .nils, .nils] (fzNew 27))).add (.cells [.int .i64 0, .int .i64 0, .nils, .nils] (fzNew 27))
    have ga : (((⟨h.t, h.next, h.next, []⟩ : AH).add (.cells [.int .i64 0, .int .i64 0, .nils, .nils] (fzNew 27))).add (.cells [.int .i64 0, .int .i64 0, .nils, .nils] (fzNew 27))).t.get h.next = some (.cells [.int .i64 0, .int .i64 0, .nils, .nils] (fzNew 27)) := by
      rw [get_add, if_neg (by rw [next_add]; show h.next ≠ h.next + 1; omega)]; exact get_add_self (h := ⟨h.t, h.next, h.next, []⟩)
    have gb : (((⟨h.t, h.next, h.next, []⟩ : AH).add (.cells [.int .i64 0, .int .i64 0, .nils, .nils] (fzNew 27))).add (.cells [.int .i64 0, .int .i64 0, .nils, .nils] (fzNew 27))).t.get (h.next + 1) = some (.cells [.int .i64 (kindTo (Lib.cut s [32]).1 0), .int .i64 0, .nils, .nils] (fzNew 27)) :=
      get_add_self (h := (⟨h.t, h.next, h.next, []⟩ : AH).add _)
    have nx : (((⟨h.t, h.next, h.next, []⟩ : AH).add (.cells [.int .i64 0, .int .i64 0, .nils, .nils] (fzNew 27))).add (.cells [.int .i64 0, .int .i64 0, .nils, .nils] (fzNew 27))).next = h.next + 2 := rfl
    have hr : (Lib.cut s [32]).2.1.length ≤ 10000 := by have := cut_len s [32]; omega
    have g0 : (argsT [.str s] 0 .leaf).get 0 = some (.str s) := rfl
    generalize argsT [.str s] 0 .leaf = T at g0
    (first | refine WRun.seq (WRun.region ?_) | refine WRun.seq (WRun.seq (WRun.region ?_)) | refine WRun.region ?_ | refine WRun.seq (WRun.seq (WRun.seq (WRun.region ?_)))); ((repeat (first | refine WOps.a rfl (by simp only [reduceIte, Nat.reduceEqDiff, Nat.reduceAdd, B3, g0, z27] <;> rfl) ?_ | refine WOps.b rfl rfl rfl (by simp only [reduceIte, Nat.reduceEqDiff, Nat.reduceAdd, B3, g0, z27] <;> rfl) ?_)); refine WOps.nil ?_)
    (first | refine WRun.seq (WRun.region ?_) | refine WRun.seq (WRun.seq (WRun.region ?_)) | refine WRun.region ?_ | refine WRun.seq (WRun.seq (WRun.seq (WRun.region ?_)))); ((repeat (first | refine WOps.a rfl (by simp only [reduceIte, Nat.reduceEqDiff, Nat.reduceAdd, B3, g0, ls, hsl] <;> rfl) ?_ | refine WOps.b rfl rfl rfl (by simp only [reduceIte, Nat.reduceEqDiff, Nat.reduceAdd, B3, g0, ls, hsl] <;> rfl) ?_)); refine WOps.nil ?_)
    (first | refine WRun.condF (by simp only [reduceIte, Nat.reduceEqDiff, Nat.reduceAdd, B3, hsl] <;> rfl) ?_ | refine WRun.seq (WRun.condF (by simp only [reduceIte, Nat.reduceEqDiff, Nat.reduceAdd, B3, hsl] <;> rfl) ?_))
    refine WRun.skip ?_
    (first | refine WRun.seq (WRun.region ?_) | refine WRun.seq (WRun.seq (WRun.region ?_)) | refine WRun.region ?_ | refine WRun.seq (WRun.seq (WRun.seq (WRun.region ?_))))
    iterate 1 (first | refine WOps.a rfl (by simp only [reduceIte, Nat.reduceEqDiff, Nat.reduceAdd, B3, g0] <;> rfl) ?_ | refine WOps.vG ((guard_bool rfl rfl (by simp only [reduceIte, Nat.reduceEqDiff, Nat.reduceAdd, B3, g0] <;> rfl)).trans rfl) (by simp only [reduceIte, Nat.reduceEqDiff, Nat.reduceAdd, B3, g0] <;> rfl) rfl ?_ | refine WOps.nG (by first | exact (guard_bool rfl rfl (by simp only [reduceIte, Nat.reduceEqDiff, Nat.reduceAdd, B3, g0] <;> rfl)).trans rfl | exact guard_not rfl rfl (by simp only [reduceIte, Nat.reduceEqDiff, Nat.reduceAdd, B3, g0] <;> rfl)) rfl ?_)
    refine WOps.cN (op_call2 (v := .str s) (u := .str [32]) (by simp only [reduceIte, Nat.reduceEqDiff, Nat.reduceAdd, B3, g0] <;> rfl) rfl Tryz.fn20 Tryz.ex20) (cCut P.s20 (by omega) _) rfl ?_
    ((repeat (first | refine WOps.a rfl (by simp only [reduceIte, Nat.reduceEqDiff, Nat.reduceAdd, B3, g0] <;> rfl) ?_ | refine WOps.b rfl rfl rfl (by simp only [reduceIte, Nat.reduceEqDiff, Nat.reduceAdd, B3, g0] <;> rfl) ?_)); refine WOps.nil ?_)
    (first | refine WRun.seq (WRun.region ?_) | refine WRun.seq (WRun.seq (WRun.region ?_)) | refine WRun.region ?_ | refine WRun.seq (WRun.seq (WRun.seq (WRun.region ?_)))); ((repeat (first | refine WOps.a rfl (by simp only [reduceIte, Nat.reduceEqDiff, Nat.reduceAdd, B3, g0, z27] <;> rfl) ?_ | refine WOps.b rfl rfl rfl (by simp only [reduceIte, Nat.reduceEqDiff, Nat.reduceAdd, B3, g0, z27] <;> rfl) ?_)); refine WOps.nil ?_)
    (first | refine WRun.seq (WRun.region ?_) | refine WRun.seq (WRun.seq (WRun.region ?_)) | refine WRun.region ?_ | refine WRun.seq (WRun.seq (WRun.seq (WRun.region ?_)))); ((repeat (first | refine WOps.a rfl (by simp only [reduceIte, Nat.reduceEqDiff, Nat.reduceAdd, B3, g0] <;> rfl) ?_ | refine WOps.b rfl rfl rfl (by simp only [reduceIte, Nat.reduceEqDiff, Nat.reduceAdd, B3, g0] <;> rfl) ?_)); refine WOps.nil ?_)
    refine WRun.withT (P := fun T => T.get 0 = some (.str s) ∧ T.get 2 = some (.ptr h.next 0) ∧ T.get 4 = some (.str (Lib.cut s [32]).1) ∧ T.get 5 = some (.str (Lib.cut s [32]).2.1) ∧ T.get 6 = some (.bool (Lib.cut s [32]).2.2) ∧ T.get 7 = some (.ptr (h.next + 1) 0) ∧ T.get 8 = some (.int .i64 1)) ⟨(by simp only [reduceIte, Nat.reduceEqDiff, Nat.reduceAdd, B3, g0] <;> rfl), (by simp only [reduceIte, Nat.reduceEqDiff, Nat.reduceAdd, B3, g0] <;> rfl), (by simp only [reduceIte, Nat.reduceEqDiff, Nat.reduceAdd, B3, g0] <;> rfl), (by simp only [reduceIte, Nat.reduceEqDiff, Nat.reduceAdd, B3, g0] <;> rfl), (by simp only [reduceIte, Nat.reduceEqDiff, Nat.reduceAdd, B3, g0] <;> rfl), (by simp only [reduceIte, Nat.reduceEqDiff, Nat.reduceAdd, B3, g0] <;> rfl), (by simp only [reduceIte, Nat.reduceEqDiff, Nat.reduceAdd, B3, g0] <;> rfl)⟩ ?_
    generalize (((⟨h.t, h.next, h.next, []⟩ : AH).add (.cells [.int .i64 0, .int .i64 0, .nils, .nils] (fzNew 27))).add (.cells [.int .i64 0, .int .i64 0, .nils, .nils] (fzNew 27))) = H at M1 ga gb nx
    clear g0 T
    rintro T ⟨t0, t2, t4, t5, t6, t7, t8⟩
    (first | refine WRun.block ?_ | refine WRun.seq (WRun.block ?_) | refine WRun.seq (WRun.seq (WRun.block ?_)))
    refine WRun.loop (I := fun m T h' => ∃ i : Nat, m + i = 9 ∧ Mine h h' ∧ h'.next = h.next + 2 ∧ h'.t.get h.next = some (.cells [.int .i64 0, .int .i64 0, .nils, .nils] (fzNew 27)) ∧ h'.t.get (h.next + 1) = some (.cells [.int .i64 (kindTo (Lib.cut s [32]).1 i), .int .i64 0, .nils, .nils] (fzNew 27)) ∧
      T.get 0 = some (.str s) ∧ T.get 2 = some (.ptr h.next 0) ∧ T.get 4 = some (.str (Lib.cut s [32]).1) ∧ T.get 5 = some (.str (Lib.cut s [32]).2.1) ∧ T.get 6 = some (.bool (Lib.cut s [32]).2.2) ∧ T.get 7 = some (.ptr (h.next + 1) 0) ∧ T.get 8 = some (.int .i64 ((i : Int) + 1))) (m := 9) ?_
      ⟨0, rfl, M1, nx, ga, gb, t0, t2, t4, t5, t6, t7, t8⟩
    clear t0 t2 t4 t5 t6 t7 t8 T M1 ga gb nx H
    rintro m T H ⟨i, hm, M1, nx, ga, gb, t0, t2, t4, t5, t6, t7, t8⟩
    by_cases hi : i < 9
    · have hle : ((i : Int) + 1 ≤ 9) = True := by simp; omega
      have ha : ∀ t k, binV Tryz.ctx.ty .add t k (.int .i64 ((i : Int) + 1)) (.int .i64 1) = some (.int .i64 (((i : Int) + 1) + 1)) := fun t k => bin_add (by omega) (by omega)
      (first | refine WRun.seq (WRun.region ?_) | refine WRun.seq (WRun.seq (WRun.region ?_)) | refine WRun.region ?_ | refine WRun.seq (WRun.seq (WRun.seq (WRun.region ?_)))); ((repeat (first | refine WOps.a rfl (by simp only [reduceIte, Nat.reduceEqDiff, Nat.reduceAdd, B3, t8, hle] <;> rfl) ?_ | refine WOps.b rfl rfl rfl (by simp only [reduceIte, Nat.reduceEqDiff, Nat.reduceAdd, B3, t8, hle] <;> rfl) ?_)); refine WOps.nil ?_)
      (first | refine WRun.condT (by simp only [reduceIte, Nat.reduceEqDiff, Nat.reduceAdd, B3, hle] <;> rfl) ?_ | refine WRun.seq (WRun.condT (by simp only [reduceIte, Nat.reduceEqDiff, Nat.reduceAdd, B3, hle] <;> rfl) ?_))
      refine WRun.skip ?_
      refine WRun.seq (WRun.block ?_)
      (first | refine WRun.seq (WRun.region ?_) | refine WRun.seq (WRun.seq (WRun.region ?_)) | refine WRun.region ?_ | refine WRun.seq (WRun.seq (WRun.seq (WRun.region ?_))))
      iterate 1 (first | refine WOps.a rfl (by simp only [reduceIte, Nat.reduceEqDiff, Nat.reduceAdd, B3, t8] <;> rfl) ?_ | refine WOps.vG ((guard_bool rfl rfl (by simp only [reduceIte, Nat.reduceEqDiff, Nat.reduceAdd, B3, t8] <;> rfl)).trans rfl) (by simp only [reduceIte, Nat.reduceEqDiff, Nat.reduceAdd, B3, t8] <;> rfl) rfl ?_ | refine WOps.nG (by first | exact (guard_bool rfl rfl (by simp only [reduceIte, Nat.reduceEqDiff, Nat.reduceAdd, B3, t8] <;> rfl)).trans rfl | exact guard_not rfl rfl (by simp only [reduceIte, Nat.reduceEqDiff, Nat.reduceAdd, B3, t8] <;> rfl)) rfl ?_)
      refine WOps.cN (op_call1 (v := .int .i64 ((i : Int) + 1)) (by simp only [reduceIte, Nat.reduceEqDiff, Nat.reduceAdd, B3, t8] <;> rfl) Tryz.fn15 Tryz.ex15) (Tryz.c15 G.s15 M1.lowN (by omega) (by omega)) rfl ?_
      cases d : decide (wordT ((i : Int) + 1) = (Lib.cut s [32]).1)
      · have se : ∀ k : Bool, binV Tryz.ctx.ty .eql 9 k (.str (wordT ((i : Int) + 1))) (.str (Lib.cut s [32]).1) = some (.bool false) := fun k => by rw [str_eql, d]
        have hk : kindTo (Lib.cut s [32]).1 (i + 1) = kindTo (Lib.cut s [32]).1 i := by
          show (if _ then _ else _) = _
          rw [if_neg (of_decide_eq_false d)]
        ((repeat (first | refine WOps.a rfl (by simp only [reduceIte, Nat.reduceEqDiff, Nat.reduceAdd, B3, t4, se] <;> rfl) ?_ | refine WOps.b rfl rfl rfl (by simp only [reduceIte, Nat.reduceEqDiff, Nat.reduceAdd, B3, t4, se] <;> rfl) ?_)); refine WOps.nil ?_)
        (first | refine WRun.condF (by simp only [reduceIte, Nat.reduceEqDiff, Nat.reduceAdd, B3, t4] <;> rfl) ?_ | refine WRun.seq (WRun.condF (by simp only [reduceIte, Nat.reduceEqDiff, Nat.reduceAdd, B3, t4] <;> rfl) ?_))
        refine WRun.skip ?_
        (first | refine WRun.seq (WRun.region ?_) | refine WRun.seq (WRun.seq (WRun.region ?_)) | refine WRun.region ?_ | refine WRun.seq (WRun.seq (WRun.seq (WRun.region ?_)))); ((repeat (first | refine WOps.a rfl (by simp only [reduceIte, Nat.reduceEqDiff, Nat.reduceAdd, B3, t8, ha] <;> rfl) ?_ | refine WOps.b rfl rfl rfl (by simp only [reduceIte, Nat.reduceEqDiff, Nat.reduceAdd, B3, t8, ha] <;> rfl) ?_)); refine WOps.nil ?_)
        exact ⟨rfl, m - 1, by omega, i + 1, by omega, M1, nx, ga, by rw [hk]; exact gb, (by simp only [reduceIte, Nat.reduceEqDiff, Nat.reduceAdd, B3, t0] <;> rfl), (by simp only [reduceIte, Nat.reduceEqDiff, Nat.reduceAdd, B3, t2] <;> rfl), (by simp only [reduceIte, Nat.reduceEqDiff, Nat.reduceAdd, B3, t4] <;> rfl), (by simp only [reduceIte, Nat.reduceEqDiff, Nat.reduceAdd, B3, t5] <;> rfl), (by simp only [reduceIte, Nat.reduceEqDiff, Nat.reduceAdd, B3, t6] <;> rfl), (by simp only [reduceIte, Nat.reduceEqDiff, Nat.reduceAdd, B3, t7] <;> rfl), (by simp only [reduceIte, Nat.reduceEqDiff, Nat.reduceAdd, B3, t8] <;> rfl)⟩
      · have se : ∀ k : Bool, binV Tryz.ctx.ty .eql 9 k (.str (wordT ((i : Int) + 1))) (.str (Lib.cut s [32]).1) = some (.bool true) := fun k => by rw [str_eql, d]
        have hk : kindTo (Lib.cut s [32]).1 (i + 1) = (i : Int) + 1 := by
          show (if _ then _ else _) = _
          rw [if_pos (of_decide_eq_true d)]
        have sw : evStore Tryz.y3 (.ptr (h.next + 1) 0) (.int .i64 ((i : Int) + 1)) H = .skip (H.set (h.next + 1) (.cells [.int .i64 ((i : Int) + 1), .int .i64 0, .nils, .nils] (fzNew 27))) := store_cells1 rfl rfl rfl gb (by rw [fz28]; decide) (by simp)
        ((repeat (first | refine WOps.a rfl (by simp only [reduceIte, Nat.reduceEqDiff, Nat.reduceAdd, B3, t4, se] <;> rfl) ?_ | refine WOps.b rfl rfl rfl (by simp only [reduceIte, Nat.reduceEqDiff, Nat.reduceAdd, B3, t4, se] <;> rfl) ?_)); refine WOps.nil ?_)
        (first | refine WRun.condT (by simp only [reduceIte, Nat.reduceEqDiff, Nat.reduceAdd, B3, t4] <;> rfl) ?_ | refine WRun.seq (WRun.condT (by simp only [reduceIte, Nat.reduceEqDiff, Nat.reduceAdd, B3, t4] <;> rfl) ?_))
        (first | refine WRun.seq (WRun.region ?_) | refine WRun.seq (WRun.seq (WRun.region ?_)) | refine WRun.region ?_ | refine WRun.seq (WRun.seq (WRun.seq (WRun.region ?_)))); ((repeat (first | refine WOps.a rfl (by simp only [reduceIte, Nat.reduceEqDiff, Nat.reduceAdd, B3, t7, t8, op_storeE, sw] <;> rfl) ?_ | refine WOps.b rfl rfl rfl (by simp only [reduceIte, Nat.reduceEqDiff, Nat.reduceAdd, B3, t7, t8, op_storeE, sw] <;> rfl) ?_)); refine WOps.nil ?_)
        (first | refine WRun.seq (WRun.region ?_) | refine WRun.seq (WRun.seq (WRun.region ?_)) | refine WRun.region ?_ | refine WRun.seq (WRun.seq (WRun.seq (WRun.region ?_)))); ((repeat (first | refine WOps.a rfl (by simp only [reduceIte, Nat.reduceEqDiff, Nat.reduceAdd, B3, t8, ha] <;> rfl) ?_ | refine WOps.b rfl rfl rfl (by simp only [reduceIte, Nat.reduceEqDiff, Nat.reduceAdd, B3, t8, ha] <;> rfl) ?_)); refine WOps.nil ?_)
        exact ⟨rfl, m - 1, by omega, i + 1, by omega, M1.set (by omega) (by omega) _, nx, by rw [get_set, if_neg (by omega)]; exact ga, by rw [hk, get_set, if_pos rfl], (by simp only [reduceIte, Nat.reduceEqDiff, Nat.reduceAdd, B3, t0] <;> rfl), (by simp only [reduceIte, Nat.reduceEqDiff, Nat.reduceAdd, B3, t2] <;> rfl), (by simp only [reduceIte, Nat.reduceEqDiff, Nat.reduceAdd, B3, t4] <;> rfl), (by simp only [reduceIte, Nat.reduceEqDiff, Nat.reduceAdd, B3, t5] <;> rfl), (by simp only [reduceIte, Nat.reduceEqDiff, Nat.reduceAdd, B3, t6] <;> rfl), (by simp only [reduceIte, Nat.reduceEqDiff, Nat.reduceAdd, B3, t7] <;> rfl), (by simp only [reduceIte, Nat.reduceEqDiff, Nat.reduceAdd, B3, t8] <;> rfl)⟩
    have h9 : i = 9 := by omega
    subst h9
    have hle : (((9 : Nat) : Int) + 1 ≤ 9) = False := by simp
    (first | refine WRun.seq (WRun.region ?_) | refine WRun.seq (WRun.seq (WRun.region ?_)) | refine WRun.region ?_ | refine WRun.seq (WRun.seq (WRun.seq (WRun.region ?_)))); ((repeat (first | refine WOps.a rfl (by simp only [reduceIte, Nat.reduceEqDiff, Nat.reduceAdd, B3, t8, hle] <;> rfl) ?_ | refine WOps.b rfl rfl rfl (by simp only [reduceIte, Nat.reduceEqDiff, Nat.reduceAdd, B3, t8, hle] <;> rfl) ?_)); refine WOps.nil ?_)
    (first | refine WRun.condF (by simp only [reduceIte, Nat.reduceEqDiff, Nat.reduceAdd, B3, hle] <;> rfl) ?_ | refine WRun.seq (WRun.condF (by simp only [reduceIte, Nat.reduceEqDiff, Nat.reduceAdd, B3, hle] <;> rfl) ?_))
    refine WRun.exit ?_
    refine (show WRun Tryz.ctx S 8 Tryz.f8.ntmps none _ _ _ _ _ from ?_)
    have l0 : evLoad Tryz.y3 (.ptr (h.next + 1) 0) H = .val (.int .i64 (kindTo (Lib.cut s [32]).1 9)) H := load_word rfl gb rfl
    (first | refine WRun.seq (WRun.region ?_) | refine WRun.seq (WRun.seq (WRun.region ?_)) | refine WRun.region ?_ | refine WRun.seq (WRun.seq (WRun.seq (WRun.region ?_)))); ((repeat (first | refine WOps.a rfl (by simp only [reduceIte, Nat.reduceEqDiff, Nat.reduceAdd, B2, t7, l0] <;> rfl) ?_ | refine WOps.b rfl rfl rfl (by simp only [reduceIte, Nat.reduceEqDiff, Nat.reduceAdd, B2, t7, l0] <;> rfl) ?_)); refine WOps.nil ?_)
    repeat refine WRun.seq ?_
    refine WRun.cutX (M := Mid8 Q h s) ?_ ?_
    rotate_left
    · clear t0 t2 t4 t5 t6 t7 t8 T M1 ga gb nx l0 hle H
      rintro T H ⟨t0, t2, t7, M1, nx, ga, k, m, tv, cv, t, R, l, gb, q, n1, n2, rd⟩
      refine (show WRun Tryz.ctx S 8 Tryz.f8.ntmps none _ _ _ _ _ from ?_)
      have l27 := load27 gb
      have sw0 : evStore Tryz.y27 (.ptr h.next 0) (.agg [.int .i64 0, .int .i64 0, .nils, .nils]) H = .skip (H.set h.next (.cells [.int .i64 0, .int .i64 0, .nils, .nils] (fzNew 27))) := store27 rfl rfl rfl rfl ga (by rw [fz28]) rfl
      have bad : ¬(VP k m t l ∧ fmtT k m t l = s) → ∀ T : PT AV, T.get 2 = some (.ptr h.next 0) → T.get 3 = some (.int .i64 3) → ∃ pv x, atEnd Tryz.ctx Tryz.f8 ⟨.ret, T, [], H.set h.next (.cells [.int .i64 0, .int .i64 0, .nils, .nils] (fzNew 27))⟩ = .one ⟨.tup [pv, .int .i64 x], H.set h.next (.cells [.int .i64 0, .int .i64 0, .nils, .nils] (fzNew 27))⟩ ∧ Mine h (H.set h.next (.cells [.int .i64 0, .int .i64 0, .nils, .nils] (fzNew 27))) ∧ Res8 Q h.next s (H.set h.next (.cells [.int .i64 0, .int .i64 0, .nils, .nils] (fzNew 27))) x pv :=
        fun hb T t2 t3 => ⟨.agg zero4, 3, atEnd8 (z := fzNew 27) trivial t2 t3 (by rw [get_set, if_pos rfl]), M1.set (Nat.le_refl _) (by omega) _, .inl ⟨rfl, rfl, .inr ⟨k, m, t, l, rd, hb⟩⟩⟩
      have z0 : decide ((0 : Int) = 0) = true := rfl
      have z3 : decide ((3 : Int) = 0) = false := rfl
      (first | refine WRun.seq (WRun.region ?_) | refine WRun.seq (WRun.seq (WRun.region ?_)) | refine WRun.region ?_ | refine WRun.seq (WRun.seq (WRun.seq (WRun.region ?_))))
      iterate 1 (first | refine WOps.a rfl (by simp only [reduceIte, Nat.reduceEqDiff, Nat.reduceAdd, B2, t7, l27] <;> rfl) ?_ | refine WOps.vG ((guard_bool rfl rfl (by simp only [reduceIte, Nat.reduceEqDiff, Nat.reduceAdd, B2, t7, l27] <;> rfl)).trans rfl) (by simp only [reduceIte, Nat.reduceEqDiff, Nat.reduceAdd, B2, t7, l27] <;> rfl) rfl ?_ | refine WOps.nG (by first | exact (guard_bool rfl rfl (by simp only [reduceIte, Nat.reduceEqDiff, Nat.reduceAdd, B2, t7, l27] <;> rfl)).trans rfl | exact guard_not rfl rfl (by simp only [reduceIte, Nat.reduceEqDiff, Nat.reduceAdd, B2, t7, l27] <;> rfl)) rfl ?_)
      by_cases v : VP k m t l
      · refine WOps.cN (op_call1 (v := .agg [.int .i64 k, .int .i64 m, tv, cv]) (by simp only [reduceIte, Nat.reduceEqDiff, Nat.reduceAdd, B3, t0] <;> rfl) Tryz.fn6 Tryz.ex6) (Tryz.c6t G M1.lowN (q H fun _ _ => rfl) v) rfl ?_
        cases d : decide (fmtT k m t l = s)
        · have sn : ∀ kk : Bool, binV Tryz.ctx.ty .neq 9 kk (.str (fmtT k m t l)) (.str s) = some (.bool true) := fun kk => by rw [str_neq, d]; rfl
          ((repeat (first | refine WOps.a rfl (by simp only [reduceIte, Nat.reduceEqDiff, Nat.reduceAdd, B3, t0] <;> rfl) ?_ | refine WOps.b rfl rfl rfl (by simp only [reduceIte, Nat.reduceEqDiff, Nat.reduceAdd, B3, t0] <;> rfl) ?_)); refine WOps.nil ?_)
          (first | refine WRun.seq (WRun.region ?_) | refine WRun.seq (WRun.seq (WRun.region ?_)) | refine WRun.region ?_ | refine WRun.seq (WRun.seq (WRun.seq (WRun.region ?_)))); ((repeat (first | refine WOps.a rfl (by simp only [reduceIte, Nat.reduceEqDiff, Nat.reduceAdd, B3, t0, sn, z0] <;> rfl) ?_ | refine WOps.b rfl rfl rfl (by simp only [reduceIte, Nat.reduceEqDiff, Nat.reduceAdd, B3, t0, sn, z0] <;> rfl) ?_)); refine WOps.nil ?_)
          (first | refine WRun.condT (by simp only [reduceIte, Nat.reduceEqDiff, Nat.reduceAdd, B3, t0] <;> rfl) ?_ | refine WRun.seq (WRun.condT (by simp only [reduceIte, Nat.reduceEqDiff, Nat.reduceAdd, B3, t0] <;> rfl) ?_))
          (first | refine WRun.seq (WRun.region ?_) | refine WRun.seq (WRun.seq (WRun.region ?_)) | refine WRun.region ?_ | refine WRun.seq (WRun.seq (WRun.seq (WRun.region ?_)))); ((repeat (first | refine WOps.a rfl (by simp only [reduceIte, Nat.reduceEqDiff, Nat.reduceAdd, B3, t2, op_storeE, sw0] <;> rfl) ?_ | refine WOps.b rfl rfl rfl (by simp only [reduceIte, Nat.reduceEqDiff, Nat.reduceAdd, B3, t2, op_storeE, sw0] <;> rfl) ?_)); refine WOps.nil ?_)
          exact WRun.ret (bad (fun w => of_decide_eq_false d w.2) _ (by simp only [reduceIte, Nat.reduceEqDiff, Nat.reduceAdd, B3, t2] <;> rfl) (by simp only [reduceIte, Nat.reduceEqDiff, Nat.reduceAdd, B3, t2] <;> rfl))
        · have sn : ∀ kk : Bool, binV Tryz.ctx.ty .neq 9 kk (.str (fmtT k m t l)) (.str s) = some (.bool false) := fun kk => by rw [str_neq, d]; rfl
          have sw : evStore Tryz.y27 (.ptr h.next 0) (.agg [.int .i64 k, .int .i64 m, tv, cv]) H = .skip (H.set h.next (.cells [.int .i64 k, .int .i64 m, tv, cv] (fzNew 27))) := store27 rfl rfl n1.one.1 n2.one.1 ga (by rw [fz28]) rfl
          ((repeat (first | refine WOps.a rfl (by simp only [reduceIte, Nat.reduceEqDiff, Nat.reduceAdd, B3, t0] <;> rfl) ?_ | refine WOps.b rfl rfl rfl (by simp only [reduceIte, Nat.reduceEqDiff, Nat.reduceAdd, B3, t0] <;> rfl) ?_)); refine WOps.nil ?_)
          (first | refine WRun.seq (WRun.region ?_) | refine WRun.seq (WRun.seq (WRun.region ?_)) | refine WRun.region ?_ | refine WRun.seq (WRun.seq (WRun.seq (WRun.region ?_)))); ((repeat (first | refine WOps.a rfl (by simp only [reduceIte, Nat.reduceEqDiff, Nat.reduceAdd, B3, t0, sn, z0] <;> rfl) ?_ | refine WOps.b rfl rfl rfl (by simp only [reduceIte, Nat.reduceEqDiff, Nat.reduceAdd, B3, t0, sn, z0] <;> rfl) ?_)); refine WOps.nil ?_)
          (first | refine WRun.condF (by simp only [reduceIte, Nat.reduceEqDiff, Nat.reduceAdd, B3, t0] <;> rfl) ?_ | refine WRun.seq (WRun.condF (by simp only [reduceIte, Nat.reduceEqDiff, Nat.reduceAdd, B3, t0] <;> rfl) ?_))
          refine WRun.skip ?_
          (first | refine WRun.seq (WRun.region ?_) | refine WRun.seq (WRun.seq (WRun.region ?_)) | refine WRun.region ?_ | refine WRun.seq (WRun.seq (WRun.seq (WRun.region ?_)))); ((repeat (first | refine WOps.a rfl (by simp only [reduceIte, Nat.reduceEqDiff, Nat.reduceAdd, B2, t2, t7, l27, op_storeE, sw] <;> rfl) ?_ | refine WOps.b rfl rfl rfl (by simp only [reduceIte, Nat.reduceEqDiff, Nat.reduceAdd, B2, t2, t7, l27, op_storeE, sw] <;> rfl) ?_)); refine WOps.nil ?_)
          exact WRun.ret ⟨_, 0, atEnd8 (z := fzNew 27) trivial (by simp only [reduceIte, Nat.reduceEqDiff, Nat.reduceAdd, B3, t2] <;> rfl) (by simp only [reduceIte, Nat.reduceEqDiff, Nat.reduceAdd, B3, t2] <;> rfl) (by rw [get_set, if_pos rfl]), M1.set (Nat.le_refl _) (by omega) _, .inr ⟨rfl, k, m, tv, cv, t, R, l, rfl, q _ fun c hc => by rw [get_set, if_neg (by omega)], n1, n2, rd, v, of_decide_eq_true d⟩⟩
      · refine WOps.cN (op_call1 (v := .agg [.int .i64 k, .int .i64 m, tv, cv]) (by simp only [reduceIte, Nat.reduceEqDiff, Nat.reduceAdd, B3, t0] <;> rfl) Tryz.fn6 Tryz.ex6) (Tryz.c6f G M1.lowN (q H fun _ _ => rfl).w v) rfl ?_
        ((repeat (first | refine WOps.a rfl (by simp only [reduceIte, Nat.reduceEqDiff, Nat.reduceAdd, B3, t0] <;> rfl) ?_ | refine WOps.b rfl rfl rfl (by simp only [reduceIte, Nat.reduceEqDiff, Nat.reduceAdd, B3, t0] <;> rfl) ?_)); refine WOps.nil ?_)
        (first | refine WRun.seq (WRun.region ?_) | refine WRun.seq (WRun.seq (WRun.region ?_)) | refine WRun.region ?_ | refine WRun.seq (WRun.seq (WRun.seq (WRun.region ?_)))); ((repeat (first | refine WOps.a rfl (by simp only [reduceIte, Nat.reduceEqDiff, Nat.reduceAdd, B3, t0, z3] <;> rfl) ?_ | refine WOps.b rfl rfl rfl (by simp only [reduceIte, Nat.reduceEqDiff, Nat.reduceAdd, B3, t0, z3] <;> rfl) ?_)); refine WOps.nil ?_)
        (first | refine WRun.condT (by simp only [reduceIte, Nat.reduceEqDiff, Nat.reduceAdd, B3, t0] <;> rfl) ?_ | refine WRun.seq (WRun.condT (by simp only [reduceIte, Nat.reduceEqDiff, Nat.reduceAdd, B3, t0] <;> rfl) ?_))
        (first | refine WRun.seq (WRun.region ?_) | refine WRun.seq (WRun.seq (WRun.region ?_)) | refine WRun.region ?_ | refine WRun.seq (WRun.seq (WRun.seq (WRun.region ?_)))); ((repeat (first | refine WOps.a rfl (by simp only [reduceIte, Nat.reduceEqDiff, Nat.reduceAdd, B3, t2, op_storeE, sw0] <;> rfl) ?_ | refine WOps.b rfl rfl rfl (by simp only [reduceIte, Nat.reduceEqDiff, Nat.reduceAdd, B3, t2, op_storeE, sw0] <;> rfl) ?_)); refine WOps.nil ?_)
        exact WRun.ret (bad (fun w => v w.1) _ (by simp only [reduceIte, Nat.reduceEqDiff, Nat.reduceAdd, B3, t2] <;> rfl) (by simp only [reduceIte, Nat.reduceEqDiff, Nat.reduceAdd, B3, t2] <;> rfl))
    cases e4 : decide (kindTo (Lib.cut s [32]).1 9 = 4)
    · have n4 : kindTo (Lib.cut s [32]).1 9 ≠ 4 := of_decide_eq_false e4
      (first | refine WRun.condF (by simp only [reduceIte, Nat.reduceEqDiff, Nat.reduceAdd, B3, e4] <;> rfl) ?_ | refine WRun.seq (WRun.condF (by simp only [reduceIte, Nat.reduceEqDiff, Nat.reduceAdd, B3, e4] <;> rfl) ?_))
      cases e6 : (Lib.cut s [32]).2.2
      · rw [e6] at t6
        (first | refine WRun.seq (WRun.region ?_) | refine WRun.seq (WRun.seq (WRun.region ?_)) | refine WRun.region ?_ | refine WRun.seq (WRun.seq (WRun.seq (WRun.region ?_)))); ((repeat (first | refine WOps.a rfl (by simp only [reduceIte, Nat.reduceEqDiff, Nat.reduceAdd, B3, t6] <;> rfl) ?_ | refine WOps.b rfl rfl rfl (by simp only [reduceIte, Nat.reduceEqDiff, Nat.reduceAdd, B3, t6] <;> rfl) ?_)); refine WOps.nil ?_)
        (first | refine WRun.condF (by simp only [reduceIte, Nat.reduceEqDiff, Nat.reduceAdd, B3, t6] <;> rfl) ?_ | refine WRun.seq (WRun.condF (by simp only [reduceIte, Nat.reduceEqDiff, Nat.reduceAdd, B3, t6] <;> rfl) ?_))
        refine WRun.skip (.inl ⟨rfl, rfl, (by simp only [reduceIte, Nat.reduceEqDiff, Nat.reduceAdd, B3, t0] <;> rfl), (by simp only [reduceIte, Nat.reduceEqDiff, Nat.reduceAdd, B3, t2] <;> rfl), (by simp only [reduceIte, Nat.reduceEqDiff, Nat.reduceAdd, B3, t7] <;> rfl), M1, by omega, ga, kindTo (Lib.cut s [32]).1 9, 0, .nils, .nils, [], fun _ => .nils, [], gb, fun _ _ => ⟨TabT.nil _ _, RowT.nil _, by omega, by omega, by simp, by simp [wt], by simp, by simp, by simp⟩, .inl ⟨rfl, rfl⟩, .inl ⟨rfl, rfl⟩, rfl, ?_⟩)
        rw [if_neg n4, if_neg (by rw [e6]; decide)]
        exact ⟨rfl, rfl, rfl⟩
      rw [e6] at t6
      (first | refine WRun.seq (WRun.region ?_) | refine WRun.seq (WRun.seq (WRun.region ?_)) | refine WRun.region ?_ | refine WRun.seq (WRun.seq (WRun.seq (WRun.region ?_)))); ((repeat (first | refine WOps.a rfl (by simp only [reduceIte, Nat.reduceEqDiff, Nat.reduceAdd, B3, t6] <;> rfl) ?_ | refine WOps.b rfl rfl rfl (by simp only [reduceIte, Nat.reduceEqDiff, Nat.reduceAdd, B3, t6] <;> rfl) ?_)); refine WOps.nil ?_)
      (first | refine WRun.condT (by simp only [reduceIte, Nat.reduceEqDiff, Nat.reduceAdd, B3, t6] <;> rfl) ?_ | refine WRun.seq (WRun.condT (by simp only [reduceIte, Nat.reduceEqDiff, Nat.reduceAdd, B3, t6] <;> rfl) ?_))
      (first | refine WRun.seq (WRun.region ?_) | refine WRun.seq (WRun.seq (WRun.region ?_)) | refine WRun.region ?_ | refine WRun.seq (WRun.seq (WRun.seq (WRun.region ?_))))
      iterate 1 (first | refine WOps.a rfl (by simp only [reduceIte, Nat.reduceEqDiff, Nat.reduceAdd, B3, t5] <;> rfl) ?_ | refine WOps.vG ((guard_bool rfl rfl (by simp only [reduceIte, Nat.reduceEqDiff, Nat.reduceAdd, B3, t5] <;> rfl)).trans rfl) (by simp only [reduceIte, Nat.reduceEqDiff, Nat.reduceAdd, B3, t5] <;> rfl) rfl ?_ | refine WOps.nG (by first | exact (guard_bool rfl rfl (by simp only [reduceIte, Nat.reduceEqDiff, Nat.reduceAdd, B3, t5] <;> rfl)).trans rfl | exact guard_not rfl rfl (by simp only [reduceIte, Nat.reduceEqDiff, Nat.reduceAdd, B3, t5] <;> rfl)) rfl ?_)
      refine WOps.cN (op_call2 (v := .str (Lib.cut s [32]).2.1) (u := .str [32]) (by simp only [reduceIte, Nat.reduceEqDiff, Nat.reduceAdd, B3, t5] <;> rfl) rfl Tryz.fn22 Tryz.ex22) (cSplit P.s22 (by omega) (by decide) _) rfl ?_
      have hn : (splitL (Lib.cut s [32]).2.1 [32]).length ≤ 10001 := by have := splitL_len (s := (Lib.cut s [32]).2.1) (p := [32]) (by decide); omega
      have hmem : ∀ x ∈ splitL (Lib.cut s [32]).2.1 [32], x.length ≤ 10000 := fun x hx => by have := splitL_mem hx; omega
      have hpos := splitL_pos (Lib.cut s [32]).2.1 [32]
      have rd : Read Q s = fun k m t l => k = kindTo (Lib.cut s [32]).1 9 ∧ if k = 4 then m = 0 ∧ l = [] ∧ Q (Lib.cut s [32]).2.1 t else if (Lib.cut s [32]).2.2 = true then t = [] ∧ numsO (splitL (Lib.cut s [32]).2.1 [32]) = some (m :: l) else t = [] ∧ m = 0 ∧ l = [] := rfl
      have bd : BadP s = (kindTo (Lib.cut s [32]).1 9 ≠ 4 ∧ (Lib.cut s [32]).2.2 = true ∧ numsO (splitL (Lib.cut s [32]).2.1 [32]) = none) := rfl
      generalize splitL (Lib.cut s [32]).2.1 [32] = sp at hn hmem hpos rd bd
      have ln : ∀ h' : AH, evLen Tryz.ctx.ty Tryz.y52 (.slice H.next 0 sp.length sp.length) h' = some (.int .i64 sp.length) := fun _ => rfl
      have M2 := M1.add (.cells (sp.map .str) 0)
      have ga2 : (H.add (.cells (sp.map .str) 0)).t.get h.next = some (.cells [.int .i64 0, .int .i64 0, .nils, .nils] (fzNew 27)) := by rw [get_add, if_neg (by omega)]; exact ga
      have gb2 : (H.add (.cells (sp.map .str) 0)).t.get (h.next + 1) = some (.cells [.int .i64 (kindTo (Lib.cut s [32]).1 9), .int .i64 0, .nils, .nils] (fzNew 27)) := by rw [get_add, if_neg (by omega)]; exact gb
      have gs2 : (H.add (.cells (sp.map .str) 0)).t.get (h.next + 2) = some (.cells (sp.map .str) 0) := by rw [get_add, if_pos nx.symm]
      have nx2 : (H.add (.cells (sp.map .str) 0)).next = h.next + 3 := by rw [next_add, nx]
      ((repeat (first | refine WOps.a rfl (by simp only [reduceIte, Nat.reduceEqDiff, Nat.reduceAdd, B3, t5, ln] <;> rfl) ?_ | refine WOps.b rfl rfl rfl (by simp only [reduceIte, Nat.reduceEqDiff, Nat.reduceAdd, B3, t5, ln] <;> rfl) ?_)); refine WOps.nil ?_)
      rw [nx]
      refine WRun.withT (P := fun T => T.get 0 = some (.str s) ∧ T.get 2 = some (.ptr h.next 0) ∧ T.get 7 = some (.ptr (h.next + 1) 0) ∧ T.get 46 = some (.slice (h.next + 2) 0 sp.length sp.length) ∧ T.get 47 = some (.int .i64 sp.length) ∧ T.get 48 = some (.int .i64 0)) ⟨(by simp only [reduceIte, Nat.reduceEqDiff, Nat.reduceAdd, B3, t0] <;> rfl), (by simp only [reduceIte, Nat.reduceEqDiff, Nat.reduceAdd, B3, t2] <;> rfl), (by simp only [reduceIte, Nat.reduceEqDiff, Nat.reduceAdd, B3, t7] <;> rfl), (by simp only [reduceIte, Nat.reduceEqDiff, Nat.reduceAdd, B3, t0] <;> rfl), (by simp only [reduceIte, Nat.reduceEqDiff, Nat.reduceAdd, B3, t0] <;> rfl), (by simp only [reduceIte, Nat.reduceEqDiff, Nat.reduceAdd, B3, t0] <;> rfl)⟩ ?_
      clear ln t0 t2 t4 t5 t6 t7 t8 T
      rintro T ⟨t0, t2, t7, t46, t47, t48⟩
      generalize H.add (.cells (sp.map .str) 0) = H2 at M2 ga2 gb2 gs2 nx2
      clear M1 ga gb nx l0 hle
      (first | refine WRun.block ?_ | refine WRun.seq (WRun.block ?_) | refine WRun.seq (WRun.seq (WRun.block ?_)))
      refine WRun.loop (I := fun m T h' => ∃ (i : Nat) (ns : List Int) (cv : AV), m + i = sp.length ∧ Mine h h' ∧ h.next + 3 ≤ h'.next ∧ h'.t.get h.next = some (.cells [.int .i64 0, .int .i64 0, .nils, .nils] (fzNew 27)) ∧
        h'.t.get (h.next + 1) = some (.cells [.int .i64 (kindTo (Lib.cut s [32]).1 9), .int .i64 (ns.headD 0), .nils, cv] (fzNew 27)) ∧ h'.t.get (h.next + 2) = some (.cells (sp.map .str) 0) ∧ VecI (h.next + 3) h' cv (intsAV ns.tail) ∧
        numsO (sp.take i) = some ns ∧ ns.length = i ∧ (∀ x ∈ ns, -9223372036854775808 ≤ x ∧ x ≤ 9223372036854775807) ∧
        T.get 0 = some (.str s) ∧ T.get 2 = some (.ptr h.next 0) ∧ T.get 7 = some (.ptr (h.next + 1) 0) ∧ T.get 46 = some (.slice (h.next + 2) 0 sp.length sp.length) ∧ T.get 47 = some (.int .i64 sp.length) ∧ T.get 48 = some (.int .i64 i)) (m := sp.length) ?_
        ⟨0, [], .nils, rfl, M2, by omega, ga2, gb2, gs2, .inl ⟨rfl, rfl⟩, rfl, rfl, by simp, t0, t2, t7, t46, t47, t48⟩
      clear t0 t2 t7 t46 t47 t48 T M2 ga2 gb2 gs2 nx2 H2 H
      rintro m T H ⟨i, ns, cv, hm, M1, nx, ga, gb, gs, vec, hns, hlen, hbd, t0, t2, t7, t46, t47, t48⟩
      by_cases hi : i < sp.length
      · have hlt : ((i : Int) < (sp.length : Int)) = True := by simp; exact hi
        have ad := add1 i (by omega)
        obtain ⟨x, hx⟩ : ∃ x, sp[i]? = some x := ⟨_, List.getElem?_eq_getElem hi⟩
        have hxl := hmem x (List.mem_of_getElem? hx)
        have ix : evIndexAddr Tryz.ctx.ty Tryz.y52 (.slice (h.next + 2) 0 sp.length sp.length) (.int .i64 i) H = .val (.ptr (h.next + 2) i) H := indexSl rfl Tryz.ty9 rfl hi
        have lx : evLoad Tryz.y9 (.ptr (h.next + 2) i) H = .val (.str x) H := load_word rfl gs (by rw [List.getElem?_map, hx]; rfl)
        have htk := take_snoc hx
        (first | refine WRun.seq (WRun.region ?_) | refine WRun.seq (WRun.seq (WRun.region ?_)) | refine WRun.region ?_ | refine WRun.seq (WRun.seq (WRun.seq (WRun.region ?_)))); ((repeat (first | refine WOps.a rfl (by simp only [reduceIte, Nat.reduceEqDiff, Nat.reduceAdd, B3, t47, t48, hlt] <;> rfl) ?_ | refine WOps.b rfl rfl rfl (by simp only [reduceIte, Nat.reduceEqDiff, Nat.reduceAdd, B3, t47, t48, hlt] <;> rfl) ?_)); refine WOps.nil ?_)
        (first | refine WRun.condT (by simp only [reduceIte, Nat.reduceEqDiff, Nat.reduceAdd, B3, hlt] <;> rfl) ?_ | refine WRun.seq (WRun.condT (by simp only [reduceIte, Nat.reduceEqDiff, Nat.reduceAdd, B3, hlt] <;> rfl) ?_))
        refine WRun.skip ?_
        refine WRun.seq (WRun.block ?_)
        (first | refine WRun.seq (WRun.region ?_) | refine WRun.seq (WRun.seq (WRun.region ?_)) | refine WRun.region ?_ | refine WRun.seq (WRun.seq (WRun.seq (WRun.region ?_)))); ((repeat (first | refine WOps.a rfl (by simp only [reduceIte, Nat.reduceEqDiff, Nat.reduceAdd, B2, t46, t48, ix, lx] <;> rfl) ?_ | refine WOps.b rfl rfl rfl (by simp only [reduceIte, Nat.reduceEqDiff, Nat.reduceAdd, B2, t46, t48, ix, lx] <;> rfl) ?_)); refine WOps.nil ?_)
        (first | refine WRun.seq (WRun.region ?_) | refine WRun.seq (WRun.seq (WRun.region ?_)) | refine WRun.region ?_ | refine WRun.seq (WRun.seq (WRun.seq (WRun.region ?_))))
        iterate 1 (first | refine WOps.a rfl (by simp only [reduceIte, Nat.reduceEqDiff, Nat.reduceAdd, B3, t0] <;> rfl) ?_ | refine WOps.vG ((guard_bool rfl rfl (by simp only [reduceIte, Nat.reduceEqDiff, Nat.reduceAdd, B3, t0] <;> rfl)).trans rfl) (by simp only [reduceIte, Nat.reduceEqDiff, Nat.reduceAdd, B3, t0] <;> rfl) rfl ?_ | refine WOps.nG (by first | exact (guard_bool rfl rfl (by simp only [reduceIte, Nat.reduceEqDiff, Nat.reduceAdd, B3, t0] <;> rfl)).trans rfl | exact guard_not rfl rfl (by simp only [reduceIte, Nat.reduceEqDiff, Nat.reduceAdd, B3, t0] <;> rfl)) rfl ?_)
        rcases cAtoiX P.s23 (s := x) (by omega) H with ⟨v, av, v0, v1, q1⟩ | ⟨av, v, q1⟩
        rotate_left
        · -- an error
          refine WOps.cN (op_call1 (v := .str x) (by simp only [reduceIte, Nat.reduceEqDiff, Nat.reduceAdd, B3, t0] <;> rfl) Tryz.fn23 Tryz.ex23) q1 rfl ?_
          have q2 := fun n => neq_iface n 140 (.ptr H.next 0)
          ((repeat (first | refine WOps.a rfl (by simp only [reduceIte, Nat.reduceEqDiff, Nat.reduceAdd, B3, t0] <;> rfl) ?_ | refine WOps.b rfl rfl rfl (by simp only [reduceIte, Nat.reduceEqDiff, Nat.reduceAdd, B3, t0] <;> rfl) ?_)); refine WOps.nil ?_)
          (first | refine WRun.seq (WRun.region ?_) | refine WRun.seq (WRun.seq (WRun.region ?_)) | refine WRun.region ?_ | refine WRun.seq (WRun.seq (WRun.seq (WRun.region ?_)))); ((repeat (first | refine WOps.a rfl (by simp only [reduceIte, Nat.reduceEqDiff, Nat.reduceAdd, B3, q2] <;> rfl) ?_ | refine WOps.b rfl rfl rfl (by simp only [reduceIte, Nat.reduceEqDiff, Nat.reduceAdd, B3, q2] <;> rfl) ?_)); refine WOps.nil ?_)
          (first | refine WRun.condT (by simp only [reduceIte, Nat.reduceEqDiff, Nat.reduceAdd, B3, q2] <;> rfl) ?_ | refine WRun.seq (WRun.condT (by simp only [reduceIte, Nat.reduceEqDiff, Nat.reduceAdd, B3, q2] <;> rfl) ?_))
          have sw : evStore Tryz.y27 (.ptr h.next 0) (.agg [.int .i64 0, .int .i64 0, .nils, .nils]) ⟨H.t, H.next + 1, H.mark, H.log⟩ = .skip ((⟨H.t, H.next + 1, H.mark, H.log⟩ : AH).set h.next (.cells [.int .i64 0, .int .i64 0, .nils, .nils] (fzNew 27))) := store27 rfl rfl rfl rfl ga (by rw [fz28]) rfl
          (first | refine WRun.seq (WRun.region ?_) | refine WRun.seq (WRun.seq (WRun.region ?_)) | refine WRun.region ?_ | refine WRun.seq (WRun.seq (WRun.seq (WRun.region ?_)))); ((repeat (first | refine WOps.a rfl (by simp only [reduceIte, Nat.reduceEqDiff, Nat.reduceAdd, B3, t2, op_storeE, sw] <;> rfl) ?_ | refine WOps.b rfl rfl rfl (by simp only [reduceIte, Nat.reduceEqDiff, Nat.reduceAdd, B3, t2, op_storeE, sw] <;> rfl) ?_)); refine WOps.nil ?_)
          refine WRun.ret (.inr ⟨(show X.ret ≠ X.norm from nofun), .agg zero4, 3, atEnd8 (z := fzNew 27) trivial (by simp only [reduceIte, Nat.reduceEqDiff, Nat.reduceAdd, B3, t2] <;> rfl) (by simp only [reduceIte, Nat.reduceEqDiff, Nat.reduceAdd, B3, t2] <;> rfl) (by rw [get_set, if_pos rfl]), (M1.bump (Nat.le_succ _)).set (Nat.le_refl _) (by show h.next < H.next + 1; omega) _, .inl ⟨rfl, rfl, .inl ?_⟩⟩)
          rw [bd]
          exact ⟨n4, e6, numsO_bad hx av⟩
        refine WOps.cN (op_call1 (v := .str x) (by simp only [reduceIte, Nat.reduceEqDiff, Nat.reduceAdd, B3, t0] <;> rfl) Tryz.fn23 Tryz.ex23) q1 rfl ?_
        have q2 := neq_nili
        ((repeat (first | refine WOps.a rfl (by simp only [reduceIte, Nat.reduceEqDiff, Nat.reduceAdd, B3, t0] <;> rfl) ?_ | refine WOps.b rfl rfl rfl (by simp only [reduceIte, Nat.reduceEqDiff, Nat.reduceAdd, B3, t0] <;> rfl) ?_)); refine WOps.nil ?_)
        (first | refine WRun.seq (WRun.region ?_) | refine WRun.seq (WRun.seq (WRun.region ?_)) | refine WRun.region ?_ | refine WRun.seq (WRun.seq (WRun.seq (WRun.region ?_)))); ((repeat (first | refine WOps.a rfl (by simp only [reduceIte, Nat.reduceEqDiff, Nat.reduceAdd, B3, q2] <;> rfl) ?_ | refine WOps.b rfl rfl rfl (by simp only [reduceIte, Nat.reduceEqDiff, Nat.reduceAdd, B3, q2] <;> rfl) ?_)); refine WOps.nil ?_)
        (first | refine WRun.condF (by simp only [reduceIte, Nat.reduceEqDiff, Nat.reduceAdd, B3, q2] <;> rfl) ?_ | refine WRun.seq (WRun.condF (by simp only [reduceIte, Nat.reduceEqDiff, Nat.reduceAdd, B3, q2] <;> rfl) ?_))
        refine WRun.skip ?_
        have hns' : numsO (sp.take (i + 1)) = some (ns ++ [v]) := by rw [htk]; exact numsO_snoc hns av
        have hbd' : ∀ x ∈ ns ++ [v], -9223372036854775808 ≤ x ∧ x ≤ 9223372036854775807 := fun y hy => by
          rcases List.mem_append.1 hy with hy | hy
          · exact hbd y hy
          · rw [List.mem_singleton] at hy; subst hy; exact ⟨v0, v1⟩
        by_cases hi0 : i = 0
        · subst hi0
          obtain rfl : ns = [] := by cases ns with
            | nil => rfl
            | cons a l => simp at hlen
          have e0 : decide (((0 : Nat) : Int) = 0) = true := rfl
          have sw : evStore Tryz.y3 (.ptr (h.next + 1) 1) (.int .i64 v) H = .skip (H.set (h.next + 1) (.cells [.int .i64 (kindTo (Lib.cut s [32]).1 9), .int .i64 v, .nils, cv] (fzNew 27))) := store_cells1 rfl rfl rfl gb (by rw [fz28]; decide) (by simp)
          (first | refine WRun.seq (WRun.region ?_) | refine WRun.seq (WRun.seq (WRun.region ?_)) | refine WRun.region ?_ | refine WRun.seq (WRun.seq (WRun.seq (WRun.region ?_)))); ((repeat (first | refine WOps.a rfl (by simp only [reduceIte, Nat.reduceEqDiff, Nat.reduceAdd, B3, t48, e0] <;> rfl) ?_ | refine WOps.b rfl rfl rfl (by simp only [reduceIte, Nat.reduceEqDiff, Nat.reduceAdd, B3, t48, e0] <;> rfl) ?_)); refine WOps.nil ?_)
          (first | refine WRun.condT (by simp only [reduceIte, Nat.reduceEqDiff, Nat.reduceAdd, B3, e0] <;> rfl) ?_ | refine WRun.seq (WRun.condT (by simp only [reduceIte, Nat.reduceEqDiff, Nat.reduceAdd, B3, e0] <;> rfl) ?_))
          (first | refine WRun.seq (WRun.region ?_) | refine WRun.seq (WRun.seq (WRun.region ?_)) | refine WRun.region ?_ | refine WRun.seq (WRun.seq (WRun.seq (WRun.region ?_)))); ((repeat (first | refine WOps.a rfl (by simp only [reduceIte, Nat.reduceEqDiff, Nat.reduceAdd, B3, t7, op_storeE, sw] <;> rfl) ?_ | refine WOps.b rfl rfl rfl (by simp only [reduceIte, Nat.reduceEqDiff, Nat.reduceAdd, B3, t7, op_storeE, sw] <;> rfl) ?_)); refine WOps.nil ?_)
          (first | refine WRun.seq (WRun.region ?_) | refine WRun.seq (WRun.seq (WRun.region ?_)) | refine WRun.region ?_ | refine WRun.seq (WRun.seq (WRun.seq (WRun.region ?_)))); ((repeat (first | refine WOps.a rfl (by simp only [reduceIte, Nat.reduceEqDiff, Nat.reduceAdd, B3, t48, ad] <;> rfl) ?_ | refine WOps.b rfl rfl rfl (by simp only [reduceIte, Nat.reduceEqDiff, Nat.reduceAdd, B3, t48, ad] <;> rfl) ?_)); refine WOps.nil ?_)
          exact ⟨rfl, m - 1, by omega, 1, [v], cv, by omega, M1.set (by omega) (by omega) _, nx, by rw [get_set, if_neg (by omega)]; exact ga, by rw [get_set, if_pos rfl]; rfl, by rw [get_set, if_neg (by omega)]; exact gs,
            vec.keep0 fun c hc => by rw [get_set, if_neg (by omega)], hns', rfl, hbd', (by simp only [reduceIte, Nat.reduceEqDiff, Nat.reduceAdd, B3, t0] <;> rfl), (by simp only [reduceIte, Nat.reduceEqDiff, Nat.reduceAdd, B3, t2] <;> rfl), (by simp only [reduceIte, Nat.reduceEqDiff, Nat.reduceAdd, B3, t7] <;> rfl), (by simp only [reduceIte, Nat.reduceEqDiff, Nat.reduceAdd, B3, t46] <;> rfl), (by simp only [reduceIte, Nat.reduceEqDiff, Nat.reduceAdd, B3, t47] <;> rfl), (by simp only [reduceIte, Nat.reduceEqDiff, Nat.reduceAdd, B3, t48] <;> rfl)⟩
        · obtain ⟨a, l, rfl⟩ : ∃ a l, ns = a :: l := by cases ns with
            | nil => simp at hlen; omega
            | cons a l => exact ⟨a, l, rfl⟩
          have vec : VecI (h.next + 3) H cv (intsAV l) := vec
          have hll : (intsAV l).length = l.length := by unfold intsAV; rw [List.length_map]
          have hl1 : l.length + 1 = i := hlen
          have e0 : decide ((i : Int) = 0) = false := by simp; omega
          have l3 : evLoad Tryz.y25 (.ptr (h.next + 1) 3) H = .val cv H := load_word rfl gb rfl
          obtain ⟨b', H4, ap, V', O4, m4, g4, hb1, hb2, k4⟩ := VecI.app Tryz.word25 vec (Own.ofMine M1) (by omega) nx (x := .int .i64 v) rfl (by rw [hll]; omega) (by rw [fz4])
          have M4 : Mine h H4 := ⟨O4.ext, O4.low, O4.lowN, O4.next, by rw [m4, M1.mark], by rw [g4 M1.mark, M1.log]⟩
          have old : ∀ c, c < h.next + 3 → H4.t.get c = H.t.get c := fun c hc => k4 c (by omega) fun n => vec.ne hc n
          have gb4 := (old _ (by omega)).trans gb
          have sw : evStore Tryz.y25 (.ptr (h.next + 1) 3) (.sliceU b' 0 ((intsAV l).length + 1) 1) H4 = .skip (H4.set (h.next + 1) (.cells [.int .i64 (kindTo (Lib.cut s [32]).1 9), .int .i64 a, .nils, .sliceU b' 0 ((intsAV l).length + 1) 1] (fzNew 27))) := store_cells1 rfl rfl rfl gb4 (by rw [fz28]; decide) (by simp)
          (first | refine WRun.seq (WRun.region ?_) | refine WRun.seq (WRun.seq (WRun.region ?_)) | refine WRun.region ?_ | refine WRun.seq (WRun.seq (WRun.seq (WRun.region ?_)))); ((repeat (first | refine WOps.a rfl (by simp only [reduceIte, Nat.reduceEqDiff, Nat.reduceAdd, B3, t48, e0] <;> rfl) ?_ | refine WOps.b rfl rfl rfl (by simp only [reduceIte, Nat.reduceEqDiff, Nat.reduceAdd, B3, t48, e0] <;> rfl) ?_)); refine WOps.nil ?_)
          (first | refine WRun.condF (by simp only [reduceIte, Nat.reduceEqDiff, Nat.reduceAdd, B3, e0] <;> rfl) ?_ | refine WRun.seq (WRun.condF (by simp only [reduceIte, Nat.reduceEqDiff, Nat.reduceAdd, B3, e0] <;> rfl) ?_))
          refine WRun.region ?_
          iterate 3 (first | refine WOps.a rfl (by simp only [reduceIte, Nat.reduceEqDiff, Nat.reduceAdd, B2, t7, l3] <;> rfl) ?_ | refine WOps.vG ((guard_bool rfl rfl (by simp only [reduceIte, Nat.reduceEqDiff, Nat.reduceAdd, B2, t7, l3] <;> rfl)).trans rfl) (by simp only [reduceIte, Nat.reduceEqDiff, Nat.reduceAdd, B2, t7, l3] <;> rfl) rfl ?_ | refine WOps.nG (by first | exact (guard_bool rfl rfl (by simp only [reduceIte, Nat.reduceEqDiff, Nat.reduceAdd, B2, t7, l3] <;> rfl)).trans rfl | exact guard_not rfl rfl (by simp only [reduceIte, Nat.reduceEqDiff, Nat.reduceAdd, B2, t7, l3] <;> rfl)) rfl ?_)
          refine WOps.vN (op_buildSlice1 (v := .int .i64 v) rfl (by simp only [reduceIte, Nat.reduceEqDiff, Nat.reduceAdd, B3, t0] <;> rfl) Tryz.ty25 Tryz.word25 rfl rfl) rfl ?_
          refine WOps.vN ((op_append (u := cv) (v := .slice H.next 0 1 1) (a := Tryz.y25) (a2 := Tryz.y25) (by simp only [reduceIte, Nat.reduceEqDiff, Nat.reduceAdd, B3, t0] <;> rfl) (by simp only [reduceIte, Nat.reduceEqDiff, Nat.reduceAdd, B3, t0] <;> rfl) Tryz.ty25 Tryz.ty25 rfl).trans ap) rfl ?_
          ((repeat (first | refine WOps.a rfl (by simp only [reduceIte, Nat.reduceEqDiff, Nat.reduceAdd, B3, t7, op_storeE, sw] <;> rfl) ?_ | refine WOps.b rfl rfl rfl (by simp only [reduceIte, Nat.reduceEqDiff, Nat.reduceAdd, B3, t7, op_storeE, sw] <;> rfl) ?_)); refine WOps.nil ?_)
          (first | refine WRun.seq (WRun.region ?_) | refine WRun.seq (WRun.seq (WRun.region ?_)) | refine WRun.region ?_ | refine WRun.seq (WRun.seq (WRun.seq (WRun.region ?_)))); ((repeat (first | refine WOps.a rfl (by simp only [reduceIte, Nat.reduceEqDiff, Nat.reduceAdd, B3, t48, ad] <;> rfl) ?_ | refine WOps.b rfl rfl rfl (by simp only [reduceIte, Nat.reduceEqDiff, Nat.reduceAdd, B3, t48, ad] <;> rfl) ?_)); refine WOps.nil ?_)
          refine ⟨rfl, m - 1, by omega, i + 1, a :: (l ++ [v]), _, by omega, M4.set (by omega) (by omega) _, by rw [next_set]; omega, by rw [get_set, if_neg (by omega), old _ (by omega)]; exact ga, by rw [get_set, if_pos rfl]; rfl, by rw [get_set, if_neg (by omega), old _ (by omega)]; exact gs,
            ?_, hns', by simp; omega, hbd', (by simp only [reduceIte, Nat.reduceEqDiff, Nat.reduceAdd, B3, t0] <;> rfl), (by simp only [reduceIte, Nat.reduceEqDiff, Nat.reduceAdd, B3, t2] <;> rfl), (by simp only [reduceIte, Nat.reduceEqDiff, Nat.reduceAdd, B3, t7] <;> rfl), (by simp only [reduceIte, Nat.reduceEqDiff, Nat.reduceAdd, B3, t46] <;> rfl), (by simp only [reduceIte, Nat.reduceEqDiff, Nat.reduceAdd, B3, t47] <;> rfl), (by simp only [reduceIte, Nat.reduceEqDiff, Nat.reduceAdd, B3, t48] <;> rfl)⟩
          show VecI (h.next + 3) _ _ (intsAV (l ++ [v]))
          have : intsAV (l ++ [v]) = intsAV l ++ [.int .i64 v] := by unfold intsAV; rw [List.map_append]; rfl
          rw [this]
          exact V'.keep0 fun c hc => by rw [get_set, if_neg (by omega)]
      · have hlt : ((i : Int) < (sp.length : Int)) = False := by simp; omega
        have hi : i = sp.length := by omega
        obtain ⟨a, l, rfl⟩ : ∃ a l, ns = a :: l := by cases ns with
          | nil => simp at hlen; omega
          | cons a l => exact ⟨a, l, rfl⟩
        have hl1 : l.length + 1 = i := hlen
        rw [hi, List.take_length] at hns
        (first | refine WRun.seq (WRun.region ?_) | refine WRun.seq (WRun.seq (WRun.region ?_)) | refine WRun.region ?_ | refine WRun.seq (WRun.seq (WRun.seq (WRun.region ?_)))); ((repeat (first | refine WOps.a rfl (by simp only [reduceIte, Nat.reduceEqDiff, Nat.reduceAdd, B3, t47, t48, hlt] <;> rfl) ?_ | refine WOps.b rfl rfl rfl (by simp only [reduceIte, Nat.reduceEqDiff, Nat.reduceAdd, B3, t47, t48, hlt] <;> rfl) ?_)); refine WOps.nil ?_)
        (first | refine WRun.condF (by simp only [reduceIte, Nat.reduceEqDiff, Nat.reduceAdd, B3, hlt] <;> rfl) ?_ | refine WRun.seq (WRun.condF (by simp only [reduceIte, Nat.reduceEqDiff, Nat.reduceAdd, B3, hlt] <;> rfl) ?_))
        have ha := hbd a List.mem_cons_self
        refine WRun.exit (.inl ⟨rfl, rfl, (by simp only [reduceIte, Nat.reduceEqDiff, Nat.reduceAdd, B3, t0] <;> rfl), (by simp only [reduceIte, Nat.reduceEqDiff, Nat.reduceAdd, B3, t2] <;> rfl), (by simp only [reduceIte, Nat.reduceEqDiff, Nat.reduceAdd, B3, t7] <;> rfl), M1, by omega, ga, kindTo (Lib.cut s [32]).1 9, a, .nils, cv, [], fun _ => .nils, l, gb, fun H' hk => ⟨TabT.nil _ _, RowAt.rowT (vec.keep0 fun c hc => hk c (by omega)).row, ha.1, ha.2, by simp, by simp [wt], by simp, by omega, fun x hx => hbd x (List.mem_cons_of_mem _ hx)⟩, .inl ⟨rfl, rfl⟩, (vec.mono (by omega)).newV, ?_⟩)
        rw [rd]
        refine ⟨rfl, ?_⟩
        rw [if_neg n4, if_pos e6]
        exact ⟨rfl, hns⟩
    · have y4 : kindTo (Lib.cut s [32]).1 9 = 4 := of_decide_eq_true e4
      (first | refine WRun.condT (by simp only [reduceIte, Nat.reduceEqDiff, Nat.reduceAdd, B3, e4] <;> rfl) ?_ | refine WRun.seq (WRun.condT (by simp only [reduceIte, Nat.reduceEqDiff, Nat.reduceAdd, B3, e4] <;> rfl) ?_))
      (first | refine WRun.seq (WRun.region ?_) | refine WRun.seq (WRun.seq (WRun.region ?_)) | refine WRun.region ?_ | refine WRun.seq (WRun.seq (WRun.seq (WRun.region ?_))))
      iterate 1 (first | refine WOps.a rfl (by simp only [reduceIte, Nat.reduceEqDiff, Nat.reduceAdd, B3, t5] <;> rfl) ?_ | refine WOps.vG ((guard_bool rfl rfl (by simp only [reduceIte, Nat.reduceEqDiff, Nat.reduceAdd, B3, t5] <;> rfl)).trans rfl) (by simp only [reduceIte, Nat.reduceEqDiff, Nat.reduceAdd, B3, t5] <;> rfl) rfl ?_ | refine WOps.nG (by first | exact (guard_bool rfl rfl (by simp only [reduceIte, Nat.reduceEqDiff, Nat.reduceAdd, B3, t5] <;> rfl)).trans rfl | exact guard_not rfl rfl (by simp only [reduceIte, Nat.reduceEqDiff, Nat.reduceAdd, B3, t5] <;> rfl)) rfl ?_)
      obtain ⟨tv, e, h', t, R, q1, q2, q3, q4, q5, q6, q7, q8⟩ := h21 H M1.lowN _ (hD y4)
      refine WOps.cN (op_call1 (v := .str (Lib.cut s [32]).2.1) (by simp only [reduceIte, Nat.reduceEqDiff, Nat.reduceAdd, B3, t5] <;> rfl) Tryz.fn21 Tryz.ex21) q1 rfl ?_
      have gb' := q2.ext _ _ gb
      have ga' := q2.ext _ _ ga
      have M2 := M1.out21 q2
      have nx' := q2.next
      have sw : evStore Tryz.y24 (.ptr (h.next + 1) 2) (.agg [tv]) h' = .skip (h'.set (h.next + 1) (.cells [.int .i64 (kindTo (Lib.cut s [32]).1 9), .int .i64 0, tv, .nils] (fzNew 27))) := store_cells1 rfl rfl q4.one.1 gb' (by rw [fz28]; decide) (by simp)
      ((repeat (first | refine WOps.a rfl (by simp only [reduceIte, Nat.reduceEqDiff, Nat.reduceAdd, B3, t7, op_storeE, sw] <;> rfl) ?_ | refine WOps.b rfl rfl rfl (by simp only [reduceIte, Nat.reduceEqDiff, Nat.reduceAdd, B3, t7, op_storeE, sw] <;> rfl) ?_)); refine WOps.nil ?_)
      refine .inl ⟨rfl, rfl, (by simp only [reduceIte, Nat.reduceEqDiff, Nat.reduceAdd, B3, t0] <;> rfl), (by simp only [reduceIte, Nat.reduceEqDiff, Nat.reduceAdd, B3, t2] <;> rfl), (by simp only [reduceIte, Nat.reduceEqDiff, Nat.reduceAdd, B3, t7] <;> rfl), M2.set (by omega) (by omega) _, by rw [next_set]; omega, by rw [get_set, if_neg (by omega)]; exact ga', kindTo (Lib.cut s [32]).1 9, 0, tv, .nils, t, R, [], by rw [get_set, if_pos rfl], fun H' hk => ⟨q3 _ fun c hc => by rw [hk c (by omega), get_set, if_neg (by omega)], RowT.nil _, by omega, by omega, by omega, q6, fun r hr x hx => by have := q7 r hr x hx; omega, by simp, by simp⟩, ?_, .inl ⟨rfl, rfl⟩, rfl, ?_⟩
      · rcases q4 with q4 | ⟨b, n, q4, q9⟩
        · exact .inl q4
        · exact .inr ⟨b, n, q4, by omega⟩
      · rw [if_pos y4]
        exact ⟨rfl, rfl, q8⟩
  obtain ⟨e, T, df, h', h1, pv, x, h3, M, h4⟩ := key
  obtain ⟨ht, hn, hmk, hlg⟩ := h'
  obtain rfl : hlg = [] := M.log
  rcases h4 with ⟨rfl, rfl, h4⟩ | ⟨rfl, k, m, tv, cv, t, R, l, rfl, q, n1, n2, h4⟩
  · exact ⟨_, _, h, WRun.calls P.s8 Tryz.fn8 rfl rfl rfl ⟨e, T, df, _, h1, ht, hn, hmk, h3⟩, Ext.refl _, low, Nat.le_refl _, rfl, rfl, .inl ⟨rfl, rfl, h4⟩⟩
  · by_cases hv : ((AV.tup [.agg [.int .i64 k, .int .i64 m, tv, cv], .int .i64 0]).all fun b => Nat.blt b h.next) = true
    · refine ⟨_, _, h, WRun.calls P.s8 Tryz.fn8 rfl rfl hv ⟨e, T, df, _, h1, ht, hn, hmk, h3⟩, Ext.refl _, low, Nat.le_refl _, rfl, rfl, .inr ⟨rfl, k, m, tv, cv, t, R, l, rfl, ?_, n1, n2, h4⟩⟩
      have hb : ∀ b n, h.next ≤ b → (AV.all (fun b => Nat.blt b h.next) (.sliceU b 0 n 1)) = false := fun b n hb => by
        show Nat.blt b h.next = false
        cases w : Nat.blt b h.next with
        | true => have := blt_iff.1 w; omega
        | false => rfl
      simp only [AV.all, allL, Bool.and_eq_true] at hv
      rcases n1 with ⟨rfl, rfl⟩ | ⟨b, n, rfl, h5⟩
      · rcases n2 with ⟨rfl, rfl⟩ | ⟨b, n, rfl, h5⟩
        · exact ⟨TabT.nil _ _, RowT.nil _, q.m0, q.m1, q.tl, q.tw, q.te, q.ll, q.le⟩
        · exfalso
          have := blt_iff.1 hv.1.2.2.2.1
          omega
      · exfalso
        have := blt_iff.1 hv.1.2.2.1
        omega
    · exact ⟨_, _, ⟨ht, hn, h.mark, h.log⟩, WRun.callsN P.s8 Tryz.fn8 rfl rfl (by simpa using hv) ⟨e, T, df, _, h1, h3⟩, M.ext, M.lowN, M.next, rfl, rfl, .inr ⟨rfl, k, m, tv, cv, t, R, l, rfl, ⟨q.tab.mono (fun b x e => e), q.row.mono fun b x e => e, q.m0, q.m1, q.tl, q.tw, q.te, q.ll, q.le⟩, n1, n2, h4⟩⟩
end Go.Proofs
namespace Go.Proofs
open Go.Ev
set_option maxRecDepth 100000
theorem op_call0 {C : Ctx} {T : PT AV} {h : AH} {f : Nat} {F : Func} (hF : C.fn.get f = some F) (he : C.ext.get f = none) {ts : Array TypeId} :
    evOp (.call { callee := .value (.func f), args := #[], argTypes := ts }) C T h = .call f [] h := by
  show callee C f [] h = _
  unfold callee
  rw [he, hF]
end Go.Proofs
