/- Part of the proof. -/
import Derived.Test.YtggkgmmhblamfaaGreatDoorTWD
import Derived.Test.YtggkgmmhblamfaaGreatDoorTWI
import Derived.Test.YtggkgmmhblamfaaGreatDoorTWE
import Derived.Test.YtggkgmmhblamfaaGreatDoorTWJ
set_option linter.all false
namespace Go.Proofs
open Go.Ev
set_option maxRecDepth 100000
/-- What a text falls into at a separator. -/
inductive Pcs (sep : List UInt8) : List UInt8 → List (List UInt8) → Prop
  | last {r : List UInt8} : Lib.index r sep < 0 → Pcs sep r [r]
  | more {r : List UInt8} {i : Nat} {l : List (List UInt8)} : Lib.index r sep = i → Pcs sep (r.drop (i + sep.length)) l → Pcs sep r (r.take i :: l)
theorem Pcs.inv {sep r : List UInt8} {L : List (List UInt8)} (h : Pcs sep r L) : (Lib.index r sep < 0 ∧ L = [r]) ∨ ∃ (i : Nat) (l : List (List UInt8)), Lib.index r sep = i ∧ L = r.take i :: l ∧ Pcs sep (r.drop (i + sep.length)) l := by
  cases h with
  | last h => exact .inl ⟨h, rfl⟩
  | more h1 h2 => exact .inr ⟨_, _, h1, rfl, h2⟩
theorem Pcs.pos {sep r : List UInt8} {L : List (List UInt8)} (h : Pcs sep r L) : 0 < L.length := by
  cases h <;> simp
theorem Tryz.c148x {S : Summ} (hS : S.get 148 = none) (h82 : S.get 82 = some sIndex) {l b1 b2 b3 : Nat} {sep : List UInt8} (hsep : 0 < sep.length) {z1 z2 z3 : Nat} {I : Nat → List UInt8 → AH → Prop} {N : Nat} (hN : N < 1000000) {ps : List (List UInt8)}
    (hI : ∀ w r H, I w r H → H.t.get b1 = some (.cells [.str sep] z1) ∧ H.t.get b2 = some (.cells [.str r] z2) ∧ H.t.get b3 = some (.cells [.int .i64 0] z3)) (hz : z2 / 65536 = 0)
    (hset : ∀ w r r' H, I w r H → I w r' (H.set b2 (.cells [.str r'] z2)))
    (hY : ∀ w r x H, I w r H → ps[w]? = some x → ∃ H', RunYield Tryz.ctx S l [.str x] H ⟨.bool true, H'⟩ ∧ I (w + 1) r H')
    (hlog : ∀ r H, I ps.length r H → H.log ≠ [])
    {s : List UInt8} {h : AH} (hs : s.length ≤ N) (hp : Pcs sep s ps) (h0 : I 0 s ⟨h.t, h.next, h.next, []⟩) (hseps : sep.length ≤ 1000) :
    ∃ H r, RunCall Tryz.ctx S 148 [.yield l, .ptr b1 0, .ptr b2 0, .ptr b3 0] h ⟨.tup [], ⟨H.t, H.next, h.mark, mergeLog h.mark h.log H.log⟩⟩ ∧ I ps.length r H := by
  have key : WRun Tryz.ctx S 148 Tryz.f148.ntmps none (Tryz.f148.body.getD .skip) (argsT [.yield l, .ptr b1 0, .ptr b2 0, .ptr b3 0] 0 .leaf) [] ⟨h.t, h.next, h.next, []⟩ fun e T df h' => (match e with | .norm => True | .ret => True | _ => False) ∧ df = [] ∧ ∃ r, I ps.length r h' := by
    have g0 : (argsT [.yield l, .ptr b1 0, .ptr b2 0, .ptr b3 0] 0 .leaf).get 0 = some (.yield l) := rfl
    have g1 : (argsT [.yield l, .ptr b1 0, .ptr b2 0, .ptr b3 0] 0 .leaf).get 1 = some (.ptr b1 0) := rfl
    have g2 : (argsT [.yield l, .ptr b1 0, .ptr b2 0, .ptr b3 0] 0 .leaf).get 2 = some (.ptr b2 0) := rfl
    have g3 : (argsT [.yield l, .ptr b1 0, .ptr b2 0, .ptr b3 0] 0 .leaf).get 3 = some (.ptr b3 0) := rfl
    generalize argsT [.yield l, .ptr b1 0, .ptr b2 0, .ptr b3 0] 0 .leaf = T at g0 g1 g2 g3
    generalize (⟨h.t, h.next, h.next, []⟩ : AH) = H at h0
    obtain ⟨f1, f2, f3⟩ := hI _ _ _ h0
    have ls : ∀ h' : AH, evLen Tryz.ctx.ty Tryz.y9 (.str sep) h' = some (.int .i64 sep.length) := fun h' => len_strE rfl
    have ld9 : ∀ {H : AH} {b : Nat} {v : AV} {z : Nat}, H.t.get b = some (.cells [v] z) → evLoad Tryz.y9 (.ptr b 0) H = .val v H := fun hb => load_word rfl hb rfl
    have ld3 : ∀ {H : AH} {b : Nat} {v : AV} {z : Nat}, H.t.get b = some (.cells [v] z) → evLoad Tryz.y3 (.ptr b 0) H = .val v H := fun hb => load_word rfl hb rfl
    have e1 := ld9 f1
    have hne : decide ((sep.length : Int) = 0) = false := by simp; intro e; rw [e] at hsep; simp at hsep
    (first | refine WRun.seq (WRun.region ?_) | refine WRun.seq (WRun.seq (WRun.region ?_)) | refine WRun.region ?_ | refine WRun.seq (WRun.seq (WRun.seq (WRun.region ?_)))); ((repeat (first | refine WOps.a rfl (by simp only [reduceIte, Nat.reduceEqDiff, Nat.reduceAdd, Bn, By, g1, e1, ls, hne] <;> rfl) ?_ | refine WOps.b rfl rfl rfl (by simp only [reduceIte, Nat.reduceEqDiff, Nat.reduceAdd, Bn, By, g1, e1, ls, hne] <;> rfl) ?_)); refine WOps.nil ?_)
    (first | refine WRun.condF (by simp only [reduceIte, Nat.reduceEqDiff, Nat.reduceAdd, Bm, By, hne] <;> rfl) ?_ | refine WRun.seq (WRun.condF (by simp only [reduceIte, Nat.reduceEqDiff, Nat.reduceAdd, Bm, By, hne] <;> rfl) ?_))
    refine WRun.skip ?_
    refine WRun.seq (WRun.block ?_)
    refine WRun.loop (I := fun m T h' => ∃ (w : Nat) (r : List UInt8), m = r.length ∧ r.length ≤ N ∧ Pcs sep r (ps.drop w) ∧ I w r h' ∧ T.get 0 = some (.yield l) ∧ T.get 1 = some (.ptr b1 0) ∧ T.get 2 = some (.ptr b2 0) ∧ T.get 3 = some (.ptr b3 0)) (m := s.length) ?_
      ⟨0, s, rfl, by omega, hp, h0, (by simp only [reduceIte, Nat.reduceEqDiff, Nat.reduceAdd, Bm, By, g0] <;> rfl), (by simp only [reduceIte, Nat.reduceEqDiff, Nat.reduceAdd, Bm, By, g1] <;> rfl), (by simp only [reduceIte, Nat.reduceEqDiff, Nat.reduceAdd, Bm, By, g2] <;> rfl), (by simp only [reduceIte, Nat.reduceEqDiff, Nat.reduceAdd, Bm, By, g3] <;> rfl)⟩
    clear f1 f2 f3 e1 h0 g0 g1 g2 g3
    rintro m T H1 ⟨w, r, rfl, hw, hpw, hI1, g0, g1, g2, g3⟩
    obtain ⟨f1, f2, f3⟩ := hI _ _ _ hI1
    have e1 := ld9 f1
    have e2 := ld9 f2
    have e3 := ld3 f3
    refine WRun.block ?_
    refine WRun.seq (WRun.region ?_)
    iterate 2 (first | refine WOps.a rfl (by simp only [reduceIte, Nat.reduceEqDiff, Nat.reduceAdd, Bn, By, g1, g2, e1, e2] <;> rfl) ?_ | refine WOps.vG ((guard_bool rfl rfl (by simp only [reduceIte, Nat.reduceEqDiff, Nat.reduceAdd, Bn, By, g1, g2, e1, e2] <;> rfl)).trans rfl) (by simp only [reduceIte, Nat.reduceEqDiff, Nat.reduceAdd, Bn, By, g1, g2, e1, e2] <;> rfl) rfl ?_ | refine WOps.nG (by first | exact (guard_bool rfl rfl (by simp only [reduceIte, Nat.reduceEqDiff, Nat.reduceAdd, Bn, By, g1, g2, e1, e2] <;> rfl)).trans rfl | exact guard_not rfl rfl (by simp only [reduceIte, Nat.reduceEqDiff, Nat.reduceAdd, Bn, By, g1, g2, e1, e2] <;> rfl)) rfl ?_)
    refine WOps.cN (op_call2 (v := .str r) (u := .str sep) (by simp only [reduceIte, Nat.reduceEqDiff, Nat.reduceAdd, Bm, By, g0] <;> rfl) (by simp only [reduceIte, Nat.reduceEqDiff, Nat.reduceAdd, Bm, By, g0] <;> rfl) Tryz.fn82 Tryz.ex82) (cIndex h82 (by omega) _) rfl ?_
    ((repeat (first | refine WOps.a rfl (by simp only [reduceIte, Nat.reduceEqDiff, Nat.reduceAdd, Bm, By, g0] <;> rfl) ?_ | refine WOps.b rfl rfl rfl (by simp only [reduceIte, Nat.reduceEqDiff, Nat.reduceAdd, Bm, By, g0] <;> rfl) ?_)); refine WOps.nil ?_)
    have hge := Lib.index_ge r sep
    have hroom := Lib.index_room r sep
    have hinv := hpw.inv
    generalize Lib.index r sep = i at hge hroom hinv
    by_cases hi : i < 0
    · have hd : decide (i < 0) = true := by simpa using hi
      (first | refine WRun.seq (WRun.region ?_) | refine WRun.seq (WRun.seq (WRun.region ?_)) | refine WRun.region ?_ | refine WRun.seq (WRun.seq (WRun.seq (WRun.region ?_)))); ((repeat (first | refine WOps.a rfl (by simp only [reduceIte, Nat.reduceEqDiff, Nat.reduceAdd, Bm, By, hd] <;> rfl) ?_ | refine WOps.b rfl rfl rfl (by simp only [reduceIte, Nat.reduceEqDiff, Nat.reduceAdd, Bm, By, hd] <;> rfl) ?_)); refine WOps.nil ?_)
      (first | refine WRun.condT (by simp only [reduceIte, Nat.reduceEqDiff, Nat.reduceAdd, Bm, By, hd] <;> rfl) ?_ | refine WRun.seq (WRun.condT (by simp only [reduceIte, Nat.reduceEqDiff, Nat.reduceAdd, Bm, By, hd] <;> rfl) ?_))
      refine WRun.exit ?_
      refine WRun.region ?_
      iterate 2 (first | refine WOps.a rfl (by simp only [reduceIte, Nat.reduceEqDiff, Nat.reduceAdd, Bn, By, g0, g2, e2] <;> rfl) ?_ | refine WOps.vG ((guard_bool rfl rfl (by simp only [reduceIte, Nat.reduceEqDiff, Nat.reduceAdd, Bn, By, g0, g2, e2] <;> rfl)).trans rfl) (by simp only [reduceIte, Nat.reduceEqDiff, Nat.reduceAdd, Bn, By, g0, g2, e2] <;> rfl) rfl ?_ | refine WOps.nG (by first | exact (guard_bool rfl rfl (by simp only [reduceIte, Nat.reduceEqDiff, Nat.reduceAdd, Bn, By, g0, g2, e2] <;> rfl)).trans rfl | exact guard_not rfl rfl (by simp only [reduceIte, Nat.reduceEqDiff, Nat.reduceAdd, Bn, By, g0, g2, e2] <;> rfl)) rfl ?_)
      rcases hinv with ⟨_, e⟩ | ⟨j, l', e, _⟩
      rotate_left
      · omega
      have hwx : ps[w]? = some r := by rw [← List.head?_drop, e]; rfl
      have hwl : w + 1 = ps.length := by
        have := congrArg List.length e
        rw [List.length_drop] at this
        simp at this
        omega
      obtain ⟨H2, y1, y2⟩ := hY w r r H1 hI1 hwx
      rw [hwl] at y2
      refine WOps.yN (op_callV1 (l := l) (v := .str r) (by simp only [reduceIte, Nat.reduceEqDiff, Nat.reduceAdd, Bm, By, g0] <;> rfl) (by simp only [reduceIte, Nat.reduceEqDiff, Nat.reduceAdd, Bm, By, g0] <;> rfl)) y1 rfl ?_
      exact WOps.nil ⟨trivial, rfl, r, y2⟩
    · have hd : decide (i < 0) = false := by simpa using hi
      obtain ⟨i, rfl⟩ : ∃ j : Nat, i = j := ⟨i.toNat, by omega⟩
      have hroom := hroom (by omega)
      have a0 : ∀ (t : TypeId) (k : Bool), binV Tryz.ctx.ty .add t k (.int .i64 (i : Int)) (.int .i64 0) = some (.int .i64 (i : Int)) := fun t k => by rw [bin_add (by omega) (by omega)]; simp
      have a1 : ∀ (t : TypeId) (k : Bool), binV Tryz.ctx.ty .add t k (.int .i64 (i : Int)) (.int .i64 (sep.length : Int)) = some (.int .i64 ((i + sep.length : Nat) : Int)) := fun t k => by rw [bin_add (by omega) (by omega)]; simp
      have s1 : ∀ H : AH, evSlice Tryz.ctx.ty Tryz.y9 (.str r) none (some (.int .i64 (i : Int))) none H = .val (.str (r.take i)) H := fun H => slice_hi rfl (by omega)
      have s2 : ∀ H : AH, evSlice Tryz.ctx.ty Tryz.y9 (.str r) (some (.int .i64 ((i + sep.length : Nat) : Int))) none none H = .val (.str (r.drop (i + sep.length))) H := fun H => slice_lo rfl (by omega)
      (first | refine WRun.seq (WRun.region ?_) | refine WRun.seq (WRun.seq (WRun.region ?_)) | refine WRun.region ?_ | refine WRun.seq (WRun.seq (WRun.seq (WRun.region ?_)))); ((repeat (first | refine WOps.a rfl (by simp only [reduceIte, Nat.reduceEqDiff, Nat.reduceAdd, Bm, By, hd] <;> rfl) ?_ | refine WOps.b rfl rfl rfl (by simp only [reduceIte, Nat.reduceEqDiff, Nat.reduceAdd, Bm, By, hd] <;> rfl) ?_)); refine WOps.nil ?_)
      (first | refine WRun.condF (by simp only [reduceIte, Nat.reduceEqDiff, Nat.reduceAdd, Bm, By, hd] <;> rfl) ?_ | refine WRun.seq (WRun.condF (by simp only [reduceIte, Nat.reduceEqDiff, Nat.reduceAdd, Bm, By, hd] <;> rfl) ?_))
      refine WRun.skip ?_
      (first | refine WRun.seq (WRun.region ?_) | refine WRun.seq (WRun.seq (WRun.region ?_)) | refine WRun.region ?_ | refine WRun.seq (WRun.seq (WRun.seq (WRun.region ?_)))); ((repeat (first | refine WOps.a rfl (by simp only [reduceIte, Nat.reduceEqDiff, Nat.reduceAdd, Bn, By, g0, g2, g3, e2, e3, a0, s1] <;> rfl) ?_ | refine WOps.b rfl rfl rfl (by simp only [reduceIte, Nat.reduceEqDiff, Nat.reduceAdd, Bn, By, g0, g2, g3, e2, e3, a0, s1] <;> rfl) ?_)); refine WOps.nil ?_)
      refine WRun.seq (WRun.seq (WRun.region ?_))
      iterate 2 (first | refine WOps.a rfl (by simp only [reduceIte, Nat.reduceEqDiff, Nat.reduceAdd, Bn, By, g0, g2, e2] <;> rfl) ?_ | refine WOps.vG ((guard_bool rfl rfl (by simp only [reduceIte, Nat.reduceEqDiff, Nat.reduceAdd, Bn, By, g0, g2, e2] <;> rfl)).trans rfl) (by simp only [reduceIte, Nat.reduceEqDiff, Nat.reduceAdd, Bn, By, g0, g2, e2] <;> rfl) rfl ?_ | refine WOps.nG (by first | exact (guard_bool rfl rfl (by simp only [reduceIte, Nat.reduceEqDiff, Nat.reduceAdd, Bn, By, g0, g2, e2] <;> rfl)).trans rfl | exact guard_not rfl rfl (by simp only [reduceIte, Nat.reduceEqDiff, Nat.reduceAdd, Bn, By, g0, g2, e2] <;> rfl)) rfl ?_)
      have htk : (r.take i).length = i := by rw [List.length_take]; omega
      rcases hinv with ⟨e, _⟩ | ⟨j, l', e, e', hp'⟩
      · omega
      obtain rfl : i = j := by omega
      have hwx : ps[w]? = some (r.take i) := by rw [← List.head?_drop, e']; rfl
      have hwd : ps.drop (w + 1) = l' := by rw [← List.tail_drop, e']; rfl
      obtain ⟨H2, y1, hI2⟩ := hY w r (r.take i) H1 hI1 hwx
      refine WOps.yN (op_callV1 (l := l) (v := .str (r.take i)) (by simp only [reduceIte, Nat.reduceEqDiff, Nat.reduceAdd, Bm, By, g0] <;> rfl) (by simp only [reduceIte, Nat.reduceEqDiff, Nat.reduceAdd, Bm, By, g0] <;> rfl)) y1 rfl ?_
      refine (show WOps _ _ _ _ _ _ _ _ _ from ?_)
      · obtain ⟨f1, f2, f3⟩ := hI _ _ _ hI2
        have e1 := ld9 f1
        have e2 := ld9 f2
        have sw : evStore Tryz.y9 (.ptr b2 0) (.str (r.drop (i + sep.length))) H2 = .skip (H2.set b2 (.cells [.str (r.drop (i + sep.length))] z2)) := store_word rfl rfl rfl f2 (by omega) (by simp)
        ((repeat (first | refine WOps.a rfl (by simp only [reduceIte, Nat.reduceEqDiff, Nat.reduceAdd, Bm, By, g0] <;> rfl) ?_ | refine WOps.b rfl rfl rfl (by simp only [reduceIte, Nat.reduceEqDiff, Nat.reduceAdd, Bm, By, g0] <;> rfl) ?_)); refine WOps.nil ?_)
        (first | refine WRun.condF (by simp only [reduceIte, Nat.reduceEqDiff, Nat.reduceAdd, Bm, By, g0] <;> rfl) ?_ | refine WRun.seq (WRun.condF (by simp only [reduceIte, Nat.reduceEqDiff, Nat.reduceAdd, Bm, By, g0] <;> rfl) ?_))
        refine WRun.skip ?_
        refine WRun.region ?_
        (iterate 6 (first | refine WOps.a rfl (by simp only [reduceIte, Nat.reduceEqDiff, Nat.reduceAdd, Bn, By, g0, g1, g2, e1, e2, ls, a1, s2] <;> rfl) ?_ | refine WOps.vG ((guard_bool rfl rfl (by simp only [reduceIte, Nat.reduceEqDiff, Nat.reduceAdd, Bn, By, g0, g1, g2, e1, e2, ls, a1, s2] <;> rfl)).trans rfl) (by simp only [reduceIte, Nat.reduceEqDiff, Nat.reduceAdd, Bn, By, g0, g1, g2, e1, e2, ls, a1, s2] <;> rfl) rfl ?_ | refine WOps.nG (by first | exact (guard_bool rfl rfl (by simp only [reduceIte, Nat.reduceEqDiff, Nat.reduceAdd, Bn, By, g0, g1, g2, e1, e2, ls, a1, s2] <;> rfl)).trans rfl | exact guard_not rfl rfl (by simp only [reduceIte, Nat.reduceEqDiff, Nat.reduceAdd, Bn, By, g0, g1, g2, e1, e2, ls, a1, s2] <;> rfl)) rfl ?_))
        refine WOps.eN (by simp only [reduceIte, Nat.reduceEqDiff, Nat.reduceAdd, Bm, By, g0, g2, op_storeE, sw] <;> rfl) ?_
        refine WOps.nil ?_
        refine ⟨rfl, (r.drop (i + sep.length)).length, ?_, w + 1, r.drop (i + sep.length), rfl, ?_, by rw [hwd]; exact hp', hset _ _ _ _ hI2, (by simp only [reduceIte, Nat.reduceEqDiff, Nat.reduceAdd, Bm, By, g0] <;> rfl), (by simp only [reduceIte, Nat.reduceEqDiff, Nat.reduceAdd, Bm, By, g1] <;> rfl), (by simp only [reduceIte, Nat.reduceEqDiff, Nat.reduceAdd, Bm, By, g2] <;> rfl), (by simp only [reduceIte, Nat.reduceEqDiff, Nat.reduceAdd, Bm, By, g3] <;> rfl)⟩
        · rw [List.length_drop]; omega
        · rw [List.length_drop]; omega
  obtain ⟨e, T, df, H, k1, k2, rfl, r, k4⟩ := key
  refine ⟨H, r, RunCall.enter hS Tryz.fn148 rfl rfl k1 (atEnd0 k2 rfl) ?_, k4⟩
  have := hlog r H k4
  obtain ⟨t, nx, mk, lg⟩ := H
  cases lg with
  | nil => exact absurd rfl this
  | cons b l => rfl
theorem Tryz.rangeX {S : Summ} (hS : S.get 148 = none) (h82 : S.get 82 = some sIndex) {fn : FuncId} {n : Nat} {rd : Option Nat} {T : PT AV} {df dfs : List Nat} {h H h0 : AH} {Q : Post} {f : Operand} {p : Tmp} {a b : Code} {b1 b2 b3 d : Nat} {s sep : List UInt8} {N : Nat}
    (hf : evOpd Tryz.ctx.G T f = some (.fn 148 [.ptr b1 0, .ptr b2 0, .ptr b3 0]))
    (hr : (rd = none ∧ d = H.next ∧ dfs = H.next :: df ∧ h0 = H.add .deferred) ∨ (∃ l s p f' n' T' ps' a' b', rd = some l ∧ H.t.get l = some (.loop s p f' n' T' ps' a' b' d) ∧ dfs = df ∧ h0 = H))
    (hp : Nat.blt p n = true) (hO : Own h h0) (hbs : h.next ≤ b2) (f1 : h0.t.get b1 = some (.cells [.str sep] 0)) (f2 : h0.t.get b2 = some (.cells [.str s] 0)) (f3 : h0.t.get b3 = some (.cells [.int .i64 0] 0)) (h12 : b1 ≠ b2) (h32 : b3 ≠ b2)
    (hsep : 0 < sep.length) (hseps : sep.length ≤ 1000) (hN : N < 1000000) (hs : s.length ≤ N)
    {I : Nat → AH → Prop} {ps : List (List UInt8)} (hps : Pcs sep s ps)
    (hI : ∀ w H1 H2, I w H1 → (∀ c, c ≠ h0.next → c ≠ b2 → H2.t.get c = H1.t.get c) → H2.next = H1.next → I w H2)
    (hI0 : ∀ H1, (∀ c, c ≠ h0.next → H1.t.get c = h0.t.get c) → H1.next = h0.next + 1 → I 0 H1)
    (hbody : ∀ w x (H1 H2 : AH), Own h H2 → I w H2 → ps[w]? = some x → H2 = H1.set h0.next (.loop .busy none fn n T #[p] a b d) → h0.next < H2.next → h0.next < H2.mark →
      H2.t.get h0.next = some (.loop .busy none fn n T #[p] a b d) →
      WRun Tryz.ctx S fn n (some h0.next) a (putD (some p) (.str x) T) [] H1 fun e T2 df2 h2 => e = .norm ∧ h2 = H1 ∧ df2 = [] ∧ WRun Tryz.ctx S fn n (some h0.next) b T2 [] H2 fun e T3 df3 h3 =>
        Own h h3 ∧ h3.mark = H2.mark ∧ H2.next ≤ h3.next ∧ (∀ c, c = h0.next ∨ c = b1 ∨ c = b2 ∨ c = b3 → h3.t.get c = H2.t.get c) ∧ e = .norm ∧ I (w + 1) h3)
    (hnorm : ∀ H', Own h H' → H'.mark = H.mark → (H.mark = h.next → H'.log = H.log) → I ps.length H' → Q .norm T dfs H') :
    WRun Tryz.ctx S fn n rd (.rangeFunc f #[p] a b) T df H Q := by
  have b1l := hO.lowN _ _ f1
  have b2l := hO.lowN _ _ f2
  have b3l := hO.lowN _ _ f3
  have hl0 : h0.log = H.log := by
    rcases hr with ⟨_, _, _, rfl⟩ | ⟨_, _, _, _, _, _, _, _, _, _, _, _, rfl⟩
    · rw [log_add]
    · rfl
  have hm0 : h0.mark = H.mark := by
    rcases hr with ⟨_, _, _, rfl⟩ | ⟨_, _, _, _, _, _, _, _, _, _, _, _, rfl⟩
    · rw [mark_add]
    · rfl
  let II : Nat → List UInt8 → AH → Prop := fun w r H1 => Own h H1 ∧ I w H1 ∧ H1.t.get b1 = some (.cells [.str sep] 0) ∧ H1.t.get b2 = some (.cells [.str r] 0) ∧ H1.t.get b3 = some (.cells [.int .i64 0] 0) ∧
    H1.t.get h0.next = some (.loop .ready none fn n T #[p] a b d) ∧ h0.next < H1.next ∧ h0.next < H1.mark ∧ (0 < w → H1.log ≠ [])
  have O1 : Own h (h0.add (.loop .ready none fn n T #[p] a b d)) := hO.add _
  have lo : h.next ≤ h0.next := hO.next
  obtain ⟨H2, r, r1, r2⟩ := Tryz.c148x (S := S) hS h82 (l := h0.next) (b1 := b1) (b2 := b2) (b3 := b3) (sep := sep) (N := N) (s := s) (h := h0.add (.loop .ready none fn n T #[p] a b d)) hsep (I := II) (ps := ps) (z1 := 0) (z2 := 0) (z3 := 0) hN
    (fun w r H1 q => ⟨q.2.2.1, q.2.2.2.1, q.2.2.2.2.1⟩) rfl
    (fun w r r' H1 ⟨q1, q2, q3, q4, q5, q6, q7, q8, q9⟩ => ⟨q1.set hbs (by omega) _, hI w H1 _ q2 (fun c _ hc => by rw [get_set, if_neg hc]) rfl, by rw [get_set, if_neg h12]; exact q3, by rw [get_set, if_pos rfl], by rw [get_set, if_neg h32]; exact q5,
      by rw [get_set, if_neg (by omega)]; exact q6, q7, q8, fun hw => by
        rw [log_setE]
        have := q9 hw
        intro e
        match hl : H1.log, this with
        | c :: l, _ =>
          have : c ∈ logged H1.mark b2 H1.log := mem_logged.2 (.inl (by rw [hl]; exact List.mem_cons_self))
          rw [e] at this
          simp at this⟩)
    (fun w r x H1 ⟨q1, q2, q3, q4, q5, q6, q7, q8, q9⟩ hw => by
      have g1 : (H1.set h0.next (.loop .busy none fn n T #[p] a b d)).t.get h0.next = some (.loop .busy none fn n T #[p] a b d) := by rw [get_set, if_pos rfl]
      have g2 : Own h (H1.set h0.next (.loop .busy none fn n T #[p] a b d)) := q1.set lo q7 _
      have g3 : I w (H1.set h0.next (.loop .busy none fn n T #[p] a b d)) := hI w H1 _ q2 (fun c hc _ => by rw [get_set, if_neg hc]) rfl
      have B := hbody w x H1 _ g2 g3 hw rfl q7 q8 g1
      obtain ⟨R, y1, y2, y3⟩ := RunYield.wp (S := S) (l := h0.next) (args := [.str x]) (T1 := putD (some p) (.str x) T) (K := fun R => R.v = .bool true ∧ II (w + 1) r R.h) q6
        (by show cnd (Nat.blt p n) (some (PT.put (some (.str x)) T p)) none = _
            rw [hp]; rfl)
        (B.mono fun e T2 df2 h2 ⟨k1, k2, k3, k4⟩ => ⟨k1, k2, k3, k4.mono fun e T3 df3 h3 ⟨m1, m2, m3, m4, m5⟩ => by
          have hl3 := m4 h0.next (.inl rfl)
          rw [g1] at hl3
          have hmk : h0.next < h3.mark := by rw [m2, mark_set]; exact q8
          have hnx : h0.next < h3.next := by rw [next_set] at m3; omega
          obtain ⟨rfl, m5⟩ := m5
          refine ⟨⟨.bool true, h3.set h0.next (.loop .ready none fn n T #[p] a b d)⟩, by show endRound h0.next none h3 = _; unfold endRound; rw [hl3]; rfl, rfl, m1.set lo hnx _, hI _ h3 _ m5 (fun c hc _ => by rw [get_set, if_neg hc]) rfl, ?_, ?_, ?_, by rw [get_set, if_pos rfl], hnx, hmk, fun _ => by rw [log_setE]; exact logged_ne hmk⟩
          · rw [get_set, if_neg (by omega), m4 b1 (.inr (.inl rfl)), get_set, if_neg (by omega)]; exact q3
          · rw [get_set, if_neg (by omega), m4 b2 (.inr (.inr (.inl rfl))), get_set, if_neg (by omega)]; exact q4
          · rw [get_set, if_neg (by omega), m4 b3 (.inr (.inr (.inr rfl))), get_set, if_neg (by omega)]; exact q5⟩)
      obtain ⟨Rv, Rh⟩ := R
      have y2 : Rv = .bool true := y2
      subst y2
      exact ⟨Rh, y1, y3⟩)
    (fun r H1 q => q.2.2.2.2.2.2.2.2 (by have := hps.pos; omega)) hs hps
    ⟨O1.enter, hI0 _ (fun c hc => by show (h0.add _).t.get c = _; rw [get_add, if_neg hc]) rfl, by show (h0.add _).t.get b1 = _; rw [get_add, if_neg (by omega)]; exact f1, by show (h0.add _).t.get b2 = _; rw [get_add, if_neg (by omega)]; exact f2, by show (h0.add _).t.get b3 = _; rw [get_add, if_neg (by omega)]; exact f3,
      get_add_self, Nat.lt_succ_self _, Nat.lt_succ_self _, fun h => absurd h (Nat.lt_irrefl _)⟩ hseps
  have r1 : RunCall Tryz.ctx S 148 [.yield h0.next, .ptr b1 0, .ptr b2 0, .ptr b3 0] (h0.add (.loop .ready none fn n T #[p] a b d)) ⟨.tup [], ⟨H2.t, H2.next, h0.mark, mergeLog h0.mark h0.log H2.log⟩⟩ := by
    rw [mark_add, log_add] at r1
    exact r1
  have hlg : (∀ b ∈ H2.log, h.next ≤ b) → H.mark = h.next → ((⟨H2.t, H2.next, h0.mark, mergeLog h0.mark h0.log H2.log⟩ : AH).del h0.next).log = H.log := fun ho e => by
    rw [log_del]
    show logged h0.mark h0.next (mergeLog h0.mark h0.log H2.log) = _
    rw [mergeLog_none (by rw [hm0, e]; exact ho), hl0]
    unfold logged
    cases q : Nat.blt h0.next h0.mark with
    | true => have := blt_iff.1 q; omega
    | false => rfl
  obtain ⟨q1, q2, q3, q4, q5, q6, q7, q8, q9⟩ := r2
  have Ob := Own.back hO q1
  refine WRun.range (h0 := h0) (d := d) (dfs := dfs) (h2 := _) (o := ⟨.norm, T, dfs, (⟨H2.t, H2.next, h0.mark, mergeLog h0.mark h0.log H2.log⟩ : AH).del h0.next⟩) hf Tryz.fn148 Tryz.ex148 hr r1 (by unfold endLoop; rw [show (⟨H2.t, H2.next, h0.mark, mergeLog h0.mark h0.log H2.log⟩ : AH).t.get h0.next = _ from q6]; rfl) ?_
  exact hnorm _ (Ob.del lo) (by rw [mark_del]; exact hm0) (hlg q1.log) (hI _ H2 _ q2 (fun c hc _ => by rw [get_del, if_neg hc]) rfl)
end Go.Proofs
namespace Go.Proofs
open Go.Ev
set_option maxRecDepth 100000
/-! ### Texts and their pieces -/
theorem index_at (c : UInt8) (sub : List UInt8) : ∀ (x r : List UInt8), (∀ a ∈ x, a ≠ c) → Lib.index (x ++ (c :: sub ++ r)) (c :: sub) = (x.length : Nat)
  | [], r, _ => by
    show Lib.index (c :: (sub ++ r)) (c :: sub) = _
    rw [Lib.index]
    have : (c :: sub).isPrefixOf (c :: (sub ++ r)) = true := by
      rw [List.isPrefixOf_iff_prefix]
      exact ⟨r, by simp⟩
    rw [this]
    rfl
  | a :: x, r, h => by
    have ha : a ≠ c := h a List.mem_cons_self
    have ih := index_at c sub x r fun b hb => h b (List.mem_cons_of_mem _ hb)
    show Lib.index (a :: (x ++ (c :: sub ++ r))) (c :: sub) = _
    rw [Lib.index]
    have : (c :: sub).isPrefixOf (a :: (x ++ (c :: sub ++ r))) = false := by
      simp [List.isPrefixOf, Ne.symm ha]
    rw [this, ih]
    simp
theorem index_none (c : UInt8) (sub : List UInt8) : ∀ (x : List UInt8), (∀ a ∈ x, a ≠ c) → Lib.index x (c :: sub) = -1
  | [], _ => by rw [Lib.index]; simp [List.isPrefixOf]
  | a :: x, h => by
    have ha : a ≠ c := h a List.mem_cons_self
    have ih := index_none c sub x fun b hb => h b (List.mem_cons_of_mem _ hb)
    rw [Lib.index]
    have : (c :: sub).isPrefixOf (a :: x) = false := by
      simp [List.isPrefixOf, Ne.symm ha]
    rw [this, ih]
    simp
theorem pcs_join (c : UInt8) (sub : List UInt8) : ∀ (x : List UInt8) (l : List (List UInt8)), (∀ y ∈ x :: l, ∀ a ∈ y, a ≠ c) → Pcs (c :: sub) (joinT (c :: sub) (x :: l)) (x :: l)
  | x, [], h => by
    have e : joinT (c :: sub) [x] = x := by simp [joinT]
    rw [e]
    exact .last (by rw [index_none c sub x (h x List.mem_cons_self)]; decide)
  | x, y :: l, h => by
    have ih := pcs_join c sub y l fun z hz => h z (List.mem_cons_of_mem _ hz)
    have e : joinT (c :: sub) (x :: y :: l) = x ++ (c :: sub ++ joinT (c :: sub) (y :: l)) := by simp [joinT, List.append_assoc]
    have i := index_at c sub x (joinT (c :: sub) (y :: l)) (h x List.mem_cons_self)
    rw [← e] at i
    have k := Pcs.more (sep := c :: sub) (r := joinT (c :: sub) (x :: y :: l)) (i := x.length) (l := y :: l) i (by
      rw [e, ← List.append_assoc, ← List.length_append, List.drop_left]
      exact ih)
    have tk : (joinT (c :: sub) (x :: y :: l)).take x.length = x := by rw [e, List.take_left]
    rw [tk] at k
    exact k
theorem Pcs.split {sep : List UInt8} : ∀ {s : List UInt8} {ps : List (List UInt8)}, Pcs sep s ps → ∀ k, ps.length ≤ k + 1 → Lib.splitK sep 0 k s = ps := by
  intro s ps h
  induction h with
  | last h =>
    rename_i r
    intro k _
    cases k with
    | zero => rfl
    | succ k =>
      unfold Lib.splitK
      rw [if_pos]
      have := Lib.index_ge r sep
      have e : Lib.index r sep = -1 := by omega
      rw [e]; rfl
  | more hi hp ih =>
    rename_i r i l
    intro k hk
    cases k with
    | zero =>
      have := hp.pos
      rw [List.length_cons] at hk
      omega
    | succ k =>
      unfold Lib.splitK
      rw [if_neg (by rw [hi]; simp), hi]
      simp only [List.length_cons] at hk
      congr 1
      exact ih k (by omega)
theorem Pcs.count {sep : List UInt8} (h0 : sep ≠ []) {s : List UInt8} {ps : List (List UInt8)} (h : Pcs sep s ps) : Lib.count s sep + 1 = ps.length := by
  induction h with
  | last h =>
    rename_i r
    have := Lib.index_ge r sep
    have e : Lib.index r sep = -1 := by omega
    rw [Lib.count_miss e]; rfl
  | more hi hp ih =>
    rw [Lib.count_hit h0 hi, List.length_cons, ← ih]
    omega
theorem splitL_pcs {s p : List UInt8} {ps : List (List UInt8)} (hp : p ≠ []) (h : Pcs p s ps) : splitL s p = ps := by
  rw [splitL_eq]
  exact h.split _ (by have := h.count hp; omega)
/-! ### Numbers -/
theorem digits_small : ∀ n : Nat, n < 1001 → (itoaK (Int.ofNat n)).all (fun b => Nat.ble 48 b.toNat && Nat.ble b.toNat 57) = true ∧ (itoaK (Int.ofNat n)).length ≤ 4 := by decide +kernel
theorem digits_two : ∀ n : Nat, n < 31 → (itoaK (Int.ofNat n)).length ≤ 2 := by decide +kernel
theorem itoa_byte {n : Int} (h0 : 0 ≤ n) (h1 : n ≤ 1000) : ∀ a ∈ itoaK n, 48 ≤ a.toNat ∧ a.toNat ≤ 57 := fun a ha => by
  obtain ⟨k, rfl⟩ : ∃ k : Nat, n = Int.ofNat k := ⟨n.toNat, by show n = (n.toNat : Int); omega⟩
  have h1 : (k : Int) ≤ 1000 := h1
  have := (digits_small k (by omega)).1
  rw [List.all_eq_true] at this
  have := this a ha
  simpa [Nat.ble_eq] using this
theorem byte_ne {a : UInt8} (h : 48 ≤ a.toNat ∧ a.toNat ≤ 57) : a ≠ 32 ∧ a ≠ 59 :=
  ⟨fun e => by subst e; exact absurd h.1 (by decide), fun e => by subst e; exact absurd h.2 (by decide)⟩
theorem itoa_two {n : Int} (h0 : 0 ≤ n) (h1 : n ≤ 30) : (itoaK n).length ≤ 2 := by
  obtain ⟨k, rfl⟩ : ∃ k : Nat, n = Int.ofNat k := ⟨n.toNat, by show n = (n.toNat : Int); omega⟩
  have h1 : (k : Int) ≤ 30 := h1
  exact digits_two k (by omega)
theorem atoi_small : ∀ n : Nat, n < 1001 → atoiO (itoaK (Int.ofNat n)) = some (Int.ofNat n) := by decide +kernel
theorem atoi_itoa {n : Int} (h0 : 0 ≤ n) (h1 : n ≤ 1000) : atoiO (itoaK n) = some n := by
  obtain ⟨k, rfl⟩ : ∃ k : Nat, n = Int.ofNat k := ⟨n.toNat, by show n = (n.toNat : Int); omega⟩
  have h1 : (k : Int) ≤ 1000 := h1
  exact atoi_small k (by omega)
theorem nums_itoa : ∀ {l : List Int}, (∀ y ∈ l, 0 ≤ y ∧ y ≤ 1000) → numsO (l.map itoaK) = some l
  | [], _ => rfl
  | a :: l, h => by
    have ha := h a List.mem_cons_self
    show numsO (itoaK a :: l.map itoaK) = _
    unfold numsO
    simp only [atoi_itoa ha.1 ha.2, nums_itoa fun y hy => h y (List.mem_cons_of_mem _ hy)]
theorem pcs_row {l : List Int} (h : ∀ y ∈ l, 0 ≤ y ∧ y ≤ 1000) (hl : l ≠ []) : Pcs [32] (rowT l) (l.map itoaK) := by
  cases l with
  | nil => exact absurd rfl hl
  | cons a l =>
    refine pcs_join 32 [] (itoaK a) (l.map itoaK) fun y hy b hb => ?_
    have hy : y ∈ (a :: l).map itoaK := hy
    obtain ⟨z, hz, rfl⟩ := List.mem_map.1 hy
    exact (byte_ne (itoa_byte (h z hz).1 (h z hz).2 b hb)).1
theorem row_no59 {l : List Int} (h : ∀ y ∈ l, 0 ≤ y ∧ y ≤ 1000) : ∀ b ∈ rowT l, b ≠ 59 := fun b hb => by
  cases l with
  | nil => simp [rowT, joinT] at hb
  | cons a l =>
    have hb : b ∈ itoaK a ++ (l.map itoaK).flatMap ([32] ++ ·) := hb
    rw [List.mem_append, List.mem_flatMap] at hb
    rcases hb with hb | ⟨y, hy, hb⟩
    · exact (byte_ne (itoa_byte (h a List.mem_cons_self).1 (h a List.mem_cons_self).2 b hb)).2
    · obtain ⟨z, hz, rfl⟩ := List.mem_map.1 hy
      have hz := h z (List.mem_cons_of_mem _ hz)
      rcases List.mem_append.1 hb with hb | hb
      · have hb : b = 32 := by simpa using hb
        subst hb; decide
      · exact (byte_ne (itoa_byte hz.1 hz.2 b hb)).2
theorem pcs_tab {t : List (List Int)} (h : ∀ l ∈ t, ∀ y ∈ l, 0 ≤ y ∧ y ≤ 1000) (ht : t ≠ []) : Pcs [59, 32] (tabT t) (t.map rowT) := by
  cases t with
  | nil => exact absurd rfl ht
  | cons a t =>
    refine pcs_join 59 [32] (rowT a) (t.map rowT) fun y hy => ?_
    have hy : y ∈ (a :: t).map rowT := hy
    obtain ⟨z, hz, rfl⟩ := List.mem_map.1 hy
    exact row_no59 (h z hz)
/-! ### Lengths -/
theorem joinT_len {sep : List UInt8} {l : List (List UInt8)} {k : Nat} (h : ∀ x ∈ l, x.length ≤ k) : (joinT sep l).length ≤ l.length * (k + sep.length) := by
  have key : ∀ r : List (List UInt8), (∀ x ∈ r, x.length ≤ k) → (r.flatMap (sep ++ ·)).length ≤ r.length * (k + sep.length) := by
    intro r
    induction r with
    | nil => simp
    | cons a r ih =>
      intro h
      have h1 := h a List.mem_cons_self
      have h2 := ih fun x hx => h x (List.mem_cons_of_mem _ hx)
      rw [List.flatMap_cons, List.length_append, List.length_append, List.length_cons, Nat.succ_mul]
      omega
  cases l with
  | nil => simp [joinT]
  | cons a l =>
    have h1 := h a List.mem_cons_self
    have h2 := key l fun x hx => h x (List.mem_cons_of_mem _ hx)
    show (a ++ l.flatMap (sep ++ ·)).length ≤ _
    rw [List.length_append, List.length_cons, Nat.succ_mul]
    omega
/-- A small table. -/
structure SmT (t : List (List Int)) : Prop where
  pos : t ≠ []
  len : t.length ≤ 30
  row : ∀ l ∈ t, l.length ≤ 30 ∧ l ≠ [] ∧ ∀ y ∈ l, 0 ≤ y ∧ y ≤ 30
theorem VT.sm {t : List (List Int)} (v : VT t) : SmT t := by
  obtain ⟨h1, h2, h3, _⟩ := v
  refine ⟨fun e => by subst e; simp at h1, h2, fun l hl => ?_⟩
  obtain ⟨i, hi⟩ := List.getElem?_of_mem hl
  obtain ⟨h4, h5⟩ := h3 i l hi
  refine ⟨by omega, fun e => by subst e; simp at h4; omega, fun y hy => ?_⟩
  obtain ⟨j, hj⟩ := List.getElem?_of_mem hy
  have := h5 j y hj
  omega
theorem SmT.rowLen {t : List (List Int)} (v : SmT t) {l : List Int} (hl : l ∈ t) : (rowT l).length ≤ 90 := by
  obtain ⟨h1, _, h2⟩ := v.row l hl
  have := joinT_len (sep := [32]) (l := l.map itoaK) (k := 2) fun x hx => by
    obtain ⟨y, hy, rfl⟩ := List.mem_map.1 hx
    exact itoa_two (h2 y hy).1 (h2 y hy).2
  rw [List.length_map] at this
  have e : ([32] : List UInt8).length = 1 := rfl
  rw [e] at this
  show (joinT [32] (l.map itoaK)).length ≤ 90
  have : l.length * 3 ≤ 30 * 3 := Nat.mul_le_mul_right _ h1
  omega
theorem SmT.tabLen {t : List (List Int)} (v : SmT t) : (tabT t).length ≤ 2760 := by
  have := joinT_len (sep := [59, 32]) (l := t.map rowT) (k := 90) fun x hx => by
    obtain ⟨y, hy, rfl⟩ := List.mem_map.1 hx
    exact v.rowLen hy
  rw [List.length_map] at this
  have e : ([59, 32] : List UInt8).length = 2 := rfl
  rw [e] at this
  show (joinT [59, 32] (t.map rowT)).length ≤ 2760
  have : t.length * 92 ≤ 30 * 92 := Nat.mul_le_mul_right _ v.len
  omega
end Go.Proofs
namespace Go.Proofs
open Go.Ev
set_option maxRecDepth 100000
set_option maxHeartbeats 4000000
theorem SmT.wt {t : List (List Int)} (v : SmT t) : wt t ≤ 16000000 := by
  have key : ∀ r : List (List Int), (∀ l ∈ r, l.length ≤ 30) → Go.Proofs.wt r ≤ 662 * r.length := by
    intro r
    induction r with
    | nil => intro _; simp [Go.Proofs.wt]
    | cons a r ih =>
      intro h
      have h1 := h a List.mem_cons_self
      have h2 := ih fun l hl => h l (List.mem_cons_of_mem _ hl)
      have e : Go.Proofs.wt (a :: r) = 2 + 22 * a.length + Go.Proofs.wt r := by unfold Go.Proofs.wt; simp
      rw [e, List.length_cons]
      omega
  have := key t fun l hl => (v.row l hl).1
  have := v.len
  omega
theorem Tryz.c21x {S : Summ} (hS : S.get 21 = none) (hS40 : S.get 40 = none) (hS50 : S.get 50 = none) (hS77 : S.get 77 = none) (hS88 : S.get 88 = none) (hS51 : S.get 51 = none) (h16 : S.get 16 = some sItoa)
    (hS19 : S.get 19 = none) (hS41 : S.get 41 = none) (hS42 : S.get 42 = none) (hS43 : S.get 43 = none)
    (hS45 : S.get 45 = none) (hS79 : S.get 79 = none) (hS148 : S.get 148 = none) (h82 : S.get 82 = some sIndex) (h23 : S.get 23 = some sAtoi) {h : AH} (low : ∀ b x, h.t.get b = some x → b < h.next) {t : List (List Int)} (vt : VT t) {s : List UInt8} (hst : s = tabT t) :
    ∃ tv e h' R, RunCall Tryz.ctx S 21 [.str s] h ⟨.tup [.agg [tv], .int .i64 e], h'⟩ ∧ Out21 h e tv h' ∧ (∀ H' : AH, (∀ c, h.next ≤ c → H'.t.get c = h'.t.get c) → TabT H' tv t R) ∧ NewV h.next tv t := by
  have sm := vt.sm
  have hs : s.length ≤ 10000 := by have := sm.tabLen; rw [hst]; omega
  have hpt : Pcs [59, 32] s (t.map rowT) := by
    rw [hst]
    exact pcs_tab (fun l hl y hy => by have := (sm.row l hl).2.2 y hy; omega) sm.pos
  have key : WRun Tryz.ctx S 21 Tryz.f21.ntmps none (Tryz.f21.body.getD .skip) (argsT [.str s] 0 .leaf) [] ⟨h.t, h.next, h.next, []⟩ fun e T df h' => (match e with | .norm => True | .ret => True | _ => False) ∧
      ∃ tv x H, atEnd Tryz.ctx Tryz.f21 ⟨e, T, df, h'⟩ = .one ⟨.tup [.agg [tv], .int .i64 x], H⟩ ∧ Mine h H ∧ ∃ R, (∀ H' : AH, (∀ c, h.next ≤ c → H'.t.get c = H.t.get c) → TabT H' tv t R) ∧ ((tv = .nils ∧ t = []) ∨ ∃ b n, tv = .sliceU b 0 n 1 ∧ h.next ≤ b) := by
    have z24 : Tryz.y24.zero = [.nils] := rfl
    have z29 : Tryz.y29.zero = [.int .i64 0] := rfl
    have z22 : Tryz.y22.zero = [.nils] := rfl
    have z25 : Tryz.y25.zero = [.nils] := rfl
    have ls : ∀ h' : AH, evLen Tryz.ctx.ty Tryz.y9 (.str s) h' = some (.int .i64 s.length) := fun h' => len_strE rfl
    have hsl : decide ((65536 : Int) < (s.length : Int)) = false := by simp; omega
    have M0 := Mine.start low
    have M1 := M0.add (.cells [.nils] (fzNew 24))
    have M2 := M1.add (.cells [.int .i64 0] (fzNew 29))
    have M3 := M2.add (.cells [.nils] (fzNew 22))
    have g0 : (argsT [.str s] 0 .leaf).get 0 = some (.str s) := rfl
    generalize argsT [.str s] 0 .leaf = T at g0
    (first | refine WRun.seq (WRun.region ?_) | refine WRun.seq (WRun.seq (WRun.region ?_)) | refine WRun.region ?_ | refine WRun.seq (WRun.seq (WRun.seq (WRun.region ?_)))); ((repeat (first | refine WOps.a rfl (by simp only [reduceIte, Nat.reduceEqDiff, Nat.reduceAdd, B3, g0, z24, z29] <;> rfl) ?_ | refine WOps.b rfl rfl rfl (by simp only [reduceIte, Nat.reduceEqDiff, Nat.reduceAdd, B3, g0, z24, z29] <;> rfl) ?_)); refine WOps.nil ?_)
    (first | refine WRun.seq (WRun.region ?_) | refine WRun.seq (WRun.seq (WRun.region ?_)) | refine WRun.region ?_ | refine WRun.seq (WRun.seq (WRun.seq (WRun.region ?_)))); ((repeat (first | refine WOps.a rfl (by simp only [reduceIte, Nat.reduceEqDiff, Nat.reduceAdd, B3, g0, ls, hsl] <;> rfl) ?_ | refine WOps.b rfl rfl rfl (by simp only [reduceIte, Nat.reduceEqDiff, Nat.reduceAdd, B3, g0, ls, hsl] <;> rfl) ?_)); refine WOps.nil ?_)
    (first | refine WRun.condF (by simp only [reduceIte, Nat.reduceEqDiff, Nat.reduceAdd, B3, hsl] <;> rfl) ?_ | refine WRun.seq (WRun.condF (by simp only [reduceIte, Nat.reduceEqDiff, Nat.reduceAdd, B3, hsl] <;> rfl) ?_))
    refine WRun.skip ?_
    (first | refine WRun.seq (WRun.region ?_) | refine WRun.seq (WRun.seq (WRun.region ?_)) | refine WRun.region ?_ | refine WRun.seq (WRun.seq (WRun.seq (WRun.region ?_)))); ((repeat (first | refine WOps.a rfl (by simp only [reduceIte, Nat.reduceEqDiff, Nat.reduceAdd, B3, g0, z22] <;> rfl) ?_ | refine WOps.b rfl rfl rfl (by simp only [reduceIte, Nat.reduceEqDiff, Nat.reduceAdd, B3, g0, z22] <;> rfl) ?_)); refine WOps.nil ?_)
    refine WRun.seq (WRun.seq (WRun.region ?_))
    iterate 1 (first | refine WOps.a rfl (by simp only [reduceIte, Nat.reduceEqDiff, Nat.reduceAdd, B3, g0] <;> rfl) ?_ | refine WOps.vG ((guard_bool rfl rfl (by simp only [reduceIte, Nat.reduceEqDiff, Nat.reduceAdd, B3, g0] <;> rfl)).trans rfl) (by simp only [reduceIte, Nat.reduceEqDiff, Nat.reduceAdd, B3, g0] <;> rfl) rfl ?_ | refine WOps.nG (by first | exact (guard_bool rfl rfl (by simp only [reduceIte, Nat.reduceEqDiff, Nat.reduceAdd, B3, g0] <;> rfl)).trans rfl | exact guard_not rfl rfl (by simp only [reduceIte, Nat.reduceEqDiff, Nat.reduceAdd, B3, g0] <;> rfl)) rfl ?_)
    have e45 := Tryz.c45 (S := S) hS45 hS79 (h := (((⟨h.t, h.next, h.next, []⟩ : AH).add (.cells [.nils] (fzNew 24))).add (.cells [.int .i64 0] (fzNew 29))).add (.cells [.nils] (fzNew 22))) (s := s) (p := [59, 32])
    rw [box3_eq] at e45
    refine WOps.cN (op_call2 (v := .str s) (u := .str [59, 32]) (by simp only [reduceIte, Nat.reduceEqDiff, Nat.reduceAdd, B3, g0] <;> rfl) rfl Tryz.fn45 Tryz.ex45) e45 rfl ?_
    refine WOps.nil ?_
    have n0 : ((((⟨h.t, h.next, h.next, []⟩ : AH).add (.cells [.nils] (fzNew 24))).add (.cells [.int .i64 0] (fzNew 29))).add (.cells [.nils] (fzNew 22))).next = h.next + 3 := rfl
    rw [n0]
    have M4 : Mine h (box3 ((((⟨h.t, h.next, h.next, []⟩ : AH).add (.cells [.nils] (fzNew 24))).add (.cells [.int .i64 0] (fzNew 29))).add (.cells [.nils] (fzNew 22))) s [59, 32]) := ((M3.add _).add _).add _
    have nb : (box3 ((((⟨h.t, h.next, h.next, []⟩ : AH).add (.cells [.nils] (fzNew 24))).add (.cells [.int .i64 0] (fzNew 29))).add (.cells [.nils] (fzNew 22))) s [59, 32]).next = h.next + 6 := rfl
    have b0 : (box3 ((((⟨h.t, h.next, h.next, []⟩ : AH).add (.cells [.nils] (fzNew 24))).add (.cells [.int .i64 0] (fzNew 29))).add (.cells [.nils] (fzNew 22))) s [59, 32]).t.get h.next = some (.cells [.nils] (fzNew 24)) := by
      unfold box3; simp only [get_add, next_add]; repeat (first | rfl | rw [if_pos (by omega)] | rw [if_neg (by omega)])
    have b1 : (box3 ((((⟨h.t, h.next, h.next, []⟩ : AH).add (.cells [.nils] (fzNew 24))).add (.cells [.int .i64 0] (fzNew 29))).add (.cells [.nils] (fzNew 22))) s [59, 32]).t.get (h.next + 1) = some (.cells [.int .i64 0] (fzNew 29)) := by
      unfold box3; simp only [get_add, next_add]; repeat (first | rfl | rw [if_pos (by omega)] | rw [if_neg (by omega)])
    have b2 : (box3 ((((⟨h.t, h.next, h.next, []⟩ : AH).add (.cells [.nils] (fzNew 24))).add (.cells [.int .i64 0] (fzNew 29))).add (.cells [.nils] (fzNew 22))) s [59, 32]).t.get (h.next + 2) = some (.cells [.nils] (fzNew 22)) := by
      unfold box3; simp only [get_add, next_add]; repeat (first | rfl | rw [if_pos (by omega)] | rw [if_neg (by omega)])
    have b3 : (box3 ((((⟨h.t, h.next, h.next, []⟩ : AH).add (.cells [.nils] (fzNew 24))).add (.cells [.int .i64 0] (fzNew 29))).add (.cells [.nils] (fzNew 22))) s [59, 32]).t.get (h.next + 3) = some (.cells [.str s] 0) := by
      unfold box3; simp only [get_add, next_add]; repeat (first | rfl | rw [if_pos (by omega)] | rw [if_neg (by omega)])
    have b4 : (box3 ((((⟨h.t, h.next, h.next, []⟩ : AH).add (.cells [.nils] (fzNew 24))).add (.cells [.int .i64 0] (fzNew 29))).add (.cells [.nils] (fzNew 22))) s [59, 32]).t.get (h.next + 4) = some (.cells [.str [59, 32]] 0) := by
      unfold box3; simp only [get_add, next_add]; repeat (first | rfl | rw [if_pos (by omega)] | rw [if_neg (by omega)])
    have b5 : (box3 ((((⟨h.t, h.next, h.next, []⟩ : AH).add (.cells [.nils] (fzNew 24))).add (.cells [.int .i64 0] (fzNew 29))).add (.cells [.nils] (fzNew 22))) s [59, 32]).t.get (h.next + 5) = some (.cells [.int .i64 0] 0) := by
      unfold box3; simp only [get_add, next_add]; repeat (first | rfl | rw [if_pos (by omega)] | rw [if_neg (by omega)])
    generalize box3 ((((⟨h.t, h.next, h.next, []⟩ : AH).add (.cells [.nils] (fzNew 24))).add (.cells [.int .i64 0] (fzNew 29))).add (.cells [.nils] (fzNew 22))) s [59, 32] = H at M4 nb b0 b1 b2 b3 b4 b5
    clear M0 M1 M2 M3 e45 n0
    refine WRun.block ?_
    refine WRun.withT (P := fun T => T.get 0 = some (.str s) ∧ T.get 2 = some (.ptr h.next 0) ∧ T.get 3 = some (.ptr (h.next + 1) 0) ∧ T.get 4 = some (.ptr (h.next + 2) 0) ∧ T.get 18 = some (.fn 148 [.ptr (h.next + 4) 0, .ptr (h.next + 3) 0, .ptr (h.next + 5) 0])) ⟨(by simp only [reduceIte, Nat.reduceEqDiff, Nat.reduceAdd, B3, g0] <;> rfl), (by simp only [reduceIte, Nat.reduceEqDiff, Nat.reduceAdd, B3, g0] <;> rfl), (by simp only [reduceIte, Nat.reduceEqDiff, Nat.reduceAdd, B3, g0] <;> rfl), (by simp only [reduceIte, Nat.reduceEqDiff, Nat.reduceAdd, B3, g0] <;> rfl), (by simp only [reduceIte, Nat.reduceEqDiff, Nat.reduceAdd, B3, g0] <;> rfl)⟩ ?_
    clear g0 T
    rintro T ⟨t0, t2, t3, t4, t18⟩
    have nd : (H.add .deferred).next = h.next + 7 := by rw [next_add, nb]
    refine Tryz.rangeX (h := h) (h0 := H.add .deferred) (d := h.next + 6) (dfs := [h.next + 6]) (b1 := h.next + 4) (b2 := h.next + 3) (b3 := h.next + 5) (s := s) (sep := [59, 32]) (N := s.length) hS148 h82 (by simp only [reduceIte, Nat.reduceEqDiff, Nat.reduceAdd, B3, t18] <;> rfl) (.inl ⟨rfl, nb.symm, by rw [nb], rfl⟩) rfl ((Own.ofMine M4).add _) (by omega)
      (by rw [get_add, if_neg (by omega)]; exact b4) (by rw [get_add, if_neg (by omega)]; exact b3) (by rw [get_add, if_neg (by omega)]; exact b5) (by omega) (by omega) (by decide) (by decide) (by omega) (Nat.le_refl _)
      (I := fun w Hc => St21 h.next 0 Hc ∧ ∃ tv rvs, Hc.t.get (h.next + 2) = some (.cells [tv] (fzNew 22)) ∧ TabI (h.next + 8) (31 * w) Hc tv (t.take w) rvs) hpt ?_ ?_ ?_ ?_
    · intro w H1 H2 ⟨st, tv, rvs, hb4, tab⟩ hk hn
      rw [nd] at hk
      exact ⟨st.keep (by omega) fun c h1 h2 h3 => hk c (by omega) (by omega), tv, rvs, by rw [hk _ (by omega) (by omega)]; exact hb4, tab.keep0 fun c hc => hk c (by omega) (by omega)⟩
    · intro H1 hk hn
      rw [nd] at hk hn
      have hg : ∀ c, c < h.next + 6 → H1.t.get c = H.t.get c := fun c hc => by rw [hk c (by omega), get_add, if_neg (by omega)]
      exact ⟨⟨by omega, by rw [hg _ (by omega)]; exact b0, by rw [hg _ (by omega)]; exact b1, by rw [hk _ (by omega), get_add, if_pos nb.symm]⟩, .nils, [], by rw [hg _ (by omega)]; exact b2, ⟨.inl ⟨rfl, rfl⟩, rfl, fun i l hl => by simp at hl, Nat.zero_le _, Nat.zero_le _⟩⟩
    · intro w x H1 H2 O2 ⟨st, tv, rvs, hb4, tab⟩ hwx eH hl1 hm1 gl1
      obtain ⟨row0, hrow0, rfl⟩ : ∃ l, t[w]? = some l ∧ rowT l = x := by
        rw [List.getElem?_map] at hwx
        cases q : t[w]? with
        | none => rw [q] at hwx; cases hwx
        | some l => rw [q] at hwx; cases hwx; exact ⟨l, rfl, rfl⟩
      have hwt := (List.getElem?_eq_some_iff.1 hrow0).1
      have hmem0 := List.mem_of_getElem? hrow0
      obtain ⟨hr30, hrne, hrb⟩ := sm.row row0 hmem0
      have hxl := sm.rowLen hmem0
      have hpr : Pcs [32] (rowT row0) (row0.map itoaK) := pcs_row (fun y hy => by have := hrb y hy; omega) hrne
      have htl := sm.len
      generalize rowT row0 = x at hxl hpr
      rw [nd] at hl1 hm1 gl1 eH ⊢
      have HHb := O2.lowN
      refine WRun.region ?_
      ((repeat (first | refine WOps.a rfl (by simp only [reduceIte, Nat.reduceEqDiff, Nat.reduceAdd, B3, t0] <;> rfl) ?_ | refine WOps.b rfl rfl rfl (by simp only [reduceIte, Nat.reduceEqDiff, Nat.reduceAdd, B3, t0] <;> rfl) ?_)); refine WOps.nil ?_)
      refine ⟨rfl, rfl, rfl, ?_⟩
      refine WRun.withT (P := fun T => T.get 0 = some (.str s) ∧ T.get 2 = some (.ptr h.next 0) ∧ T.get 3 = some (.ptr (h.next + 1) 0) ∧ T.get 4 = some (.ptr (h.next + 2) 0) ∧ T.get 5 = some (.str x)) ⟨(by simp only [reduceIte, Nat.reduceEqDiff, Nat.reduceAdd, B3, t0] <;> rfl), (by simp only [reduceIte, Nat.reduceEqDiff, Nat.reduceAdd, B3, t2] <;> rfl), (by simp only [reduceIte, Nat.reduceEqDiff, Nat.reduceAdd, B3, t3] <;> rfl), (by simp only [reduceIte, Nat.reduceEqDiff, Nat.reduceAdd, B3, t4] <;> rfl), (by simp only [reduceIte, Nat.reduceEqDiff, Nat.reduceAdd, B3, t0] <;> rfl)⟩ ?_
      clear t0 t2 t3 t4 t18 eH
      rintro T ⟨t0, t2, t3, t4, t5⟩
      refine WRun.block ?_
      (first | refine WRun.seq (WRun.region ?_) | refine WRun.seq (WRun.seq (WRun.region ?_)) | refine WRun.region ?_ | refine WRun.seq (WRun.seq (WRun.seq (WRun.region ?_)))); ((repeat (first | refine WOps.a rfl (by simp only [reduceIte, Nat.reduceEqDiff, Nat.reduceAdd, B3, z25] <;> rfl) ?_ | refine WOps.b rfl rfl rfl (by simp only [reduceIte, Nat.reduceEqDiff, Nat.reduceAdd, B3, z25] <;> rfl) ?_)); refine WOps.nil ?_)
      refine WRun.seq (WRun.seq (WRun.region ?_))
      iterate 1 (first | refine WOps.a rfl (by simp only [reduceIte, Nat.reduceEqDiff, Nat.reduceAdd, B3, t5] <;> rfl) ?_ | refine WOps.vG ((guard_bool rfl rfl (by simp only [reduceIte, Nat.reduceEqDiff, Nat.reduceAdd, B3, t5] <;> rfl)).trans rfl) (by simp only [reduceIte, Nat.reduceEqDiff, Nat.reduceAdd, B3, t5] <;> rfl) rfl ?_ | refine WOps.nG (by first | exact (guard_bool rfl rfl (by simp only [reduceIte, Nat.reduceEqDiff, Nat.reduceAdd, B3, t5] <;> rfl)).trans rfl | exact guard_not rfl rfl (by simp only [reduceIte, Nat.reduceEqDiff, Nat.reduceAdd, B3, t5] <;> rfl)) rfl ?_)
      have e45 := Tryz.c45 (S := S) hS45 hS79 (h := H2.add (.cells [.nils] (fzNew 25))) (s := x) (p := [32])
      rw [box3_eq] at e45
      refine WOps.cN (op_call2 (v := .str x) (u := .str [32]) (by simp only [reduceIte, Nat.reduceEqDiff, Nat.reduceAdd, B3, t5] <;> rfl) rfl Tryz.fn45 Tryz.ex45) e45 rfl ?_
      refine WOps.nil ?_
      have nb' : (box3 (H2.add (.cells [.nils] (fzNew 25))) x [32]).next = H2.next + 4 := rfl
      have mb' : (box3 (H2.add (.cells [.nils] (fzNew 25))) x [32]).mark = H2.mark := rfl
      have OB : Own h (box3 (H2.add (.cells [.nils] (fzNew 25))) x [32]) := (((O2.add _).add _).add _).add _
      have old : ∀ c, c < H2.next → (box3 (H2.add (.cells [.nils] (fzNew 25))) x [32]).t.get c = H2.t.get c := fun c hc => by
        unfold box3; simp only [get_add, next_add]; repeat (first | rfl | rw [if_neg (by omega)])
      have c0 : (box3 (H2.add (.cells [.nils] (fzNew 25))) x [32]).t.get H2.next = some (.cells [.nils] (fzNew 25)) := by
        unfold box3; simp only [get_add, next_add]; repeat (first | rfl | rw [if_pos (by omega)] | rw [if_neg (by omega)])
      have c1 : (box3 (H2.add (.cells [.nils] (fzNew 25))) x [32]).t.get (H2.next + 1) = some (.cells [.str x] 0) := by
        unfold box3; simp only [get_add, next_add]; repeat (first | rfl | rw [if_pos (by omega)] | rw [if_neg (by omega)])
      have c2 : (box3 (H2.add (.cells [.nils] (fzNew 25))) x [32]).t.get (H2.next + 2) = some (.cells [.str [32]] 0) := by
        unfold box3; simp only [get_add, next_add]; repeat (first | rfl | rw [if_pos (by omega)] | rw [if_neg (by omega)])
      have c3 : (box3 (H2.add (.cells [.nils] (fzNew 25))) x [32]).t.get (H2.next + 3) = some (.cells [.int .i64 0] 0) := by
        unfold box3; simp only [get_add, next_add]; repeat (first | rfl | rw [if_pos (by omega)] | rw [if_neg (by omega)])
      have na : (H2.add (.cells [.nils] (fzNew 25))).next = H2.next + 1 := rfl
      rw [na]
      generalize box3 (H2.add (.cells [.nils] (fzNew 25))) x [32] = HB at nb' mb' OB old c0 c1 c2 c3
      clear e45 na
      have hm8 : h.next + 8 ≤ H2.next := st.next
      generalize hmq : H2.next = m at nb' old c0 c1 c2 c3 hm8 hl1 ⊢
      refine WRun.withT (P := fun T => T.get 0 = some (.str s) ∧ T.get 2 = some (.ptr h.next 0) ∧ T.get 3 = some (.ptr (h.next + 1) 0) ∧ T.get 4 = some (.ptr (h.next + 2) 0) ∧ T.get 6 = some (.ptr m 0) ∧ T.get 21 = some (.fn 148 [.ptr (m + 2) 0, .ptr (m + 1) 0, .ptr (m + 3) 0])) ⟨(by simp only [reduceIte, Nat.reduceEqDiff, Nat.reduceAdd, B3, t0] <;> rfl), (by simp only [reduceIte, Nat.reduceEqDiff, Nat.reduceAdd, B3, t2] <;> rfl), (by simp only [reduceIte, Nat.reduceEqDiff, Nat.reduceAdd, B3, t3] <;> rfl), (by simp only [reduceIte, Nat.reduceEqDiff, Nat.reduceAdd, B3, t4] <;> rfl), (by simp only [reduceIte, Nat.reduceEqDiff, Nat.reduceAdd, B3, t0] <;> rfl), (by simp only [reduceIte, Nat.reduceEqDiff, Nat.reduceAdd, B3, t0] <;> rfl)⟩ ?_
      clear t0 t2 t3 t4 t5 T
      rintro T ⟨t0, t2, t3, t4, t6, t21⟩
      refine WRun.block ?_
      have hxN : x.length ≤ 10000 := by omega
      refine Tryz.rangeX (h := h) (h0 := HB) (d := h.next + 6) (dfs := []) (b1 := m + 2) (b2 := m + 1) (b3 := m + 3) (s := x) (sep := [32]) (N := x.length) hS148 h82 (by simp only [reduceIte, Nat.reduceEqDiff, Nat.reduceAdd, B3, t21] <;> rfl) (.inr ⟨h.next + 7, _, _, _, _, _, _, _, _, rfl, (old _ (by omega)).trans gl1, rfl, rfl⟩) rfl OB (by omega) c2 c1 c3 (by omega) (by omega) (by decide) (by decide) (by omega) (Nat.le_refl _)
        (I := fun w2 Hc => m + 5 ≤ Hc.next ∧ (∀ c, c < m → Hc.t.get c = H2.t.get c) ∧ ∃ rv, Hc.t.get m = some (.cells [rv] (fzNew 25)) ∧ VecI (m + 5) Hc rv (intsAV (row0.take w2))) hpr ?_ ?_ ?_ ?_
      · intro w2 Ha Hb ⟨i1, i2, rv, i3, i4⟩ hk hn
        rw [nb'] at hk
        exact ⟨by omega, fun c hc => by rw [hk c (by omega) (by omega)]; exact i2 c hc, rv, by rw [hk m (by omega) (by omega)]; exact i3, i4.keep0 fun c hc => hk c (by omega) (by omega)⟩
      · intro Ha hk hn
        rw [nb'] at hk hn
        exact ⟨by omega, fun c hc => by rw [hk c (by omega)]; exact old c hc, .nils, by rw [hk m (by omega)]; exact c0, .inl ⟨rfl, rfl⟩⟩
      · intro w2 y Ha Hb Ob ⟨i1, i2, rv, i3, i4⟩ hw2 eHb hl2 hm2 gl2
        obtain ⟨v, hv2, rfl⟩ : ∃ v, row0[w2]? = some v ∧ itoaK v = y := by
          rw [List.getElem?_map] at hw2
          cases q : row0[w2]? with
          | none => rw [q] at hw2; cases hw2
          | some v => rw [q] at hw2; cases hw2; exact ⟨v, rfl, rfl⟩
        have hwr := (List.getElem?_eq_some_iff.1 hv2).1
        have hv0 := hrb v (List.mem_of_getElem? hv2)
        have hai := atoi_itoa (n := v) (by omega) (by omega)
        have hil2 := itoa_two (n := v) (by omega) (by omega)
        have htk2 := take_snoc hv2
        generalize itoaK v = y at hai hil2
        rw [nb'] at hl2 hm2 gl2 eHb ⊢
        refine WRun.region ?_
        ((repeat (first | refine WOps.a rfl (by simp only [reduceIte, Nat.reduceEqDiff, Nat.reduceAdd, B3, t0] <;> rfl) ?_ | refine WOps.b rfl rfl rfl (by simp only [reduceIte, Nat.reduceEqDiff, Nat.reduceAdd, B3, t0] <;> rfl) ?_)); refine WOps.nil ?_)
        refine ⟨rfl, rfl, rfl, ?_⟩
        refine WRun.withT (P := fun T => T.get 2 = some (.ptr h.next 0) ∧ T.get 3 = some (.ptr (h.next + 1) 0) ∧ T.get 6 = some (.ptr m 0) ∧ T.get 7 = some (.str y)) ⟨(by simp only [reduceIte, Nat.reduceEqDiff, Nat.reduceAdd, B3, t2] <;> rfl), (by simp only [reduceIte, Nat.reduceEqDiff, Nat.reduceAdd, B3, t3] <;> rfl), (by simp only [reduceIte, Nat.reduceEqDiff, Nat.reduceAdd, B3, t6] <;> rfl), (by simp only [reduceIte, Nat.reduceEqDiff, Nat.reduceAdd, B3, t0] <;> rfl)⟩ ?_
        clear t0 t2 t3 t4 t6 t21 eHb gl2 T
        rintro T ⟨t2, t3, t6, t7⟩
        refine WRun.block ?_
        obtain ⟨v', hv', _, _, q1⟩ | ⟨hv', _⟩ := cAtoiX (S := S) h23 (s := y) (by omega) Hb
        rotate_left
        · rw [hai] at hv'; cases hv'
        rw [hai] at hv'
        cases hv'
        have q2 := neq_nili
        refine WRun.seq (WRun.region ?_)
        iterate 1 (first | refine WOps.a rfl (by simp only [reduceIte, Nat.reduceEqDiff, Nat.reduceAdd, B3, t7] <;> rfl) ?_ | refine WOps.vG ((guard_bool rfl rfl (by simp only [reduceIte, Nat.reduceEqDiff, Nat.reduceAdd, B3, t7] <;> rfl)).trans rfl) (by simp only [reduceIte, Nat.reduceEqDiff, Nat.reduceAdd, B3, t7] <;> rfl) rfl ?_ | refine WOps.nG (by first | exact (guard_bool rfl rfl (by simp only [reduceIte, Nat.reduceEqDiff, Nat.reduceAdd, B3, t7] <;> rfl)).trans rfl | exact guard_not rfl rfl (by simp only [reduceIte, Nat.reduceEqDiff, Nat.reduceAdd, B3, t7] <;> rfl)) rfl ?_)
        refine WOps.cN (op_call1 (v := .str y) (by simp only [reduceIte, Nat.reduceEqDiff, Nat.reduceAdd, B3, t7] <;> rfl) Tryz.fn23 Tryz.ex23) q1 rfl ?_
        ((repeat (first | refine WOps.a rfl (by simp only [reduceIte, Nat.reduceEqDiff, Nat.reduceAdd, B3, t7] <;> rfl) ?_ | refine WOps.b rfl rfl rfl (by simp only [reduceIte, Nat.reduceEqDiff, Nat.reduceAdd, B3, t7] <;> rfl) ?_)); refine WOps.nil ?_)
        · have d1 : decide (v < 0) = false := by simp; omega
          have d2 : decide (30 < v) = false := by simp; omega
          (first | refine WRun.seq (WRun.region ?_) | refine WRun.seq (WRun.seq (WRun.region ?_)) | refine WRun.region ?_ | refine WRun.seq (WRun.seq (WRun.seq (WRun.region ?_)))); ((repeat (first | refine WOps.a rfl (by simp only [reduceIte, Nat.reduceEqDiff, Nat.reduceAdd, B3, q2, d1, d2] <;> rfl) ?_ | refine WOps.b rfl rfl rfl (by simp only [reduceIte, Nat.reduceEqDiff, Nat.reduceAdd, B3, q2, d1, d2] <;> rfl) ?_)); refine WOps.nil ?_)
          (first | refine WRun.condF (by simp only [reduceIte, Nat.reduceEqDiff, Nat.reduceAdd, B3, d2] <;> rfl) ?_ | refine WRun.seq (WRun.condF (by simp only [reduceIte, Nat.reduceEqDiff, Nat.reduceAdd, B3, d2] <;> rfl) ?_))
          refine WRun.skip ?_
          have ON := Ob
          have iN : ∀ c, Hb.t.get c = Hb.t.get c := fun _ => rfl
          have nN : Hb.next = Hb.next := rfl
          have mN : Hb.mark = Hb.mark := rfl
          have VN : VecI (m + 5) Hb rv (intsAV (row0.take w2)) := i4
          have gm : Hb.t.get m = some (.cells [rv] (fzNew 25)) := i3
          have l1 : evLoad Tryz.y25 (.ptr m 0) Hb = .val rv Hb := load_word rfl gm rfl
          have hil : (intsAV (row0.take w2)).length ≤ 30 := by unfold intsAV; rw [List.length_map, List.length_take]; omega
          obtain ⟨b', H4, ap, V', O4, m4, _, hb1, hb2, k4⟩ := VN.app Tryz.word25 ON (by omega) (by omega) (x := .int .i64 v) rfl (by omega) (by rw [fz4])
          have gm4 : H4.t.get m = some (.cells [rv] (fzNew 25)) := by rw [k4 m (by omega) fun n => VN.ne (by omega) n]; exact gm
          have sw : evStore Tryz.y25 (.ptr m 0) (.sliceU b' 0 ((intsAV (row0.take w2)).length + 1) 1) H4 = .skip (H4.set m (.cells [.sliceU b' 0 ((intsAV (row0.take w2)).length + 1) 1] (fzNew 25))) := store_cells1 (c := [rv]) rfl rfl rfl gm4 (by rw [fz26]; decide) (by simp)
          refine WRun.region ?_
          iterate 2 (first | refine WOps.a rfl (by simp only [reduceIte, Nat.reduceEqDiff, Nat.reduceAdd, B2, t6, l1] <;> rfl) ?_ | refine WOps.vG ((guard_bool rfl rfl (by simp only [reduceIte, Nat.reduceEqDiff, Nat.reduceAdd, B2, t6, l1] <;> rfl)).trans rfl) (by simp only [reduceIte, Nat.reduceEqDiff, Nat.reduceAdd, B2, t6, l1] <;> rfl) rfl ?_ | refine WOps.nG (by first | exact (guard_bool rfl rfl (by simp only [reduceIte, Nat.reduceEqDiff, Nat.reduceAdd, B2, t6, l1] <;> rfl)).trans rfl | exact guard_not rfl rfl (by simp only [reduceIte, Nat.reduceEqDiff, Nat.reduceAdd, B2, t6, l1] <;> rfl)) rfl ?_)
          refine WOps.vN (op_buildSlice1 (v := .int .i64 v) rfl (by simp only [reduceIte, Nat.reduceEqDiff, Nat.reduceAdd, B3, t6] <;> rfl) Tryz.ty25 Tryz.word25 rfl rfl) rfl ?_
          refine WOps.vN ((op_append (u := rv) (v := .slice Hb.next 0 1 1) (a := Tryz.y25) (a2 := Tryz.y25) (by simp only [reduceIte, Nat.reduceEqDiff, Nat.reduceAdd, B3, t6] <;> rfl) (by simp only [reduceIte, Nat.reduceEqDiff, Nat.reduceAdd, B3, t6] <;> rfl) Tryz.ty25 Tryz.ty25 rfl).trans ap) rfl ?_
          refine WOps.eN (by simp only [reduceIte, Nat.reduceEqDiff, Nat.reduceAdd, B3, t6, op_storeE, sw] <;> rfl) ?_
          refine WOps.nil ?_
          have k4' : ∀ c, c < m + 5 → c ≠ m → (H4.set m (.cells [.sliceU b' 0 ((intsAV (row0.take w2)).length + 1) 1] (fzNew 25))).t.get c = Hb.t.get c := fun c hc hcm => by
            rw [get_set, if_neg hcm, k4 c (by omega) fun n => VN.ne hc n, iN]
          refine ⟨O4.set (by omega) (by omega) _, by rw [mark_set, m4], by rw [next_set]; omega, fun c hc => k4' c (by omega) (by omega), rfl, by rw [next_set]; omega, fun c hc => by rw [k4' c (by omega) (by omega)]; exact i2 c hc, _, by rw [get_set, if_pos rfl], ?_⟩
          have : intsAV (row0.take (w2 + 1)) = intsAV (row0.take w2) ++ [.int .i64 v] := by rw [htk2]; unfold intsAV; rw [List.map_append]; rfl
          rw [this]
          exact V'.keep0 fun c hc => by rw [get_set, if_neg (by omega)]
      · intro Hc Oc hmc hlc ⟨i1, i2, rv, i3, i4⟩
        rw [List.length_map, List.take_length] at i4
        have htkw := take_snoc hrow0
        have tabc := tab.keep (H' := Hc) (fun c _ hc => i2 c (by omega)) HHb
        have htvm : ∀ c n, tv = .sliceU c 0 n 1 → c < m := fun c n e => by
          obtain ⟨_, y, hy⟩ := tab.vec.get e
          have := HHb _ _ hy; omega
        have g4 : Hc.t.get (h.next + 2) = some (.cells [tv] (fzNew 22)) := by rw [i2 _ (by omega)]; exact hb4
        have l4 : evLoad Tryz.y22 (.ptr (h.next + 2) 0) Hc = .val tv Hc := load_word rfl g4 rfl
        have l6 : evLoad Tryz.y25 (.ptr m 0) Hc = .val rv Hc := load_word rfl i3 rfl
        have hwl := tabc.wl
        have hln := tabc.len
        obtain ⟨b', H5, ap, V', O5, m5, _, hb1, hb2, k5⟩ := tabc.vec.app Tryz.word22 Oc (by omega) (by omega) (x := rv) i4.one.1 (by omega) (by rw [fz26])
        have g5 : H5.t.get (h.next + 2) = some (.cells [tv] (fzNew 22)) := by rw [k5 _ (by omega) fun n => tabc.vec.ne (by omega) n]; exact g4
        have sw : evStore Tryz.y22 (.ptr (h.next + 2) 0) (.sliceU b' 0 (rvs.length + 1) 1) H5 = .skip (H5.set (h.next + 2) (.cells [.sliceU b' 0 (rvs.length + 1) 1] (fzNew 22))) := store_cells1 (c := [tv]) rfl rfl rfl g5 (by rw [fz23]; decide) (by simp)
        refine (show WRun Tryz.ctx S 21 Tryz.f21.ntmps (some (h.next + 7)) _ _ _ _ _ from ?_)
        refine WRun.region ?_
        iterate 2 (first | refine WOps.a rfl (by simp only [reduceIte, Nat.reduceEqDiff, Nat.reduceAdd, B2, t4, t6, l4, l6] <;> rfl) ?_ | refine WOps.vG ((guard_bool rfl rfl (by simp only [reduceIte, Nat.reduceEqDiff, Nat.reduceAdd, B2, t4, t6, l4, l6] <;> rfl)).trans rfl) (by simp only [reduceIte, Nat.reduceEqDiff, Nat.reduceAdd, B2, t4, t6, l4, l6] <;> rfl) rfl ?_ | refine WOps.nG (by first | exact (guard_bool rfl rfl (by simp only [reduceIte, Nat.reduceEqDiff, Nat.reduceAdd, B2, t4, t6, l4, l6] <;> rfl)).trans rfl | exact guard_not rfl rfl (by simp only [reduceIte, Nat.reduceEqDiff, Nat.reduceAdd, B2, t4, t6, l4, l6] <;> rfl)) rfl ?_)
        refine WOps.vN (op_buildSlice1 (v := rv) rfl (by simp only [reduceIte, Nat.reduceEqDiff, Nat.reduceAdd, B3, t6] <;> rfl) Tryz.ty22 Tryz.word22 rfl i4.one.2) rfl ?_
        refine WOps.vN ((op_append (u := tv) (v := .slice Hc.next 0 1 1) (a := Tryz.y22) (a2 := Tryz.y22) (by simp only [reduceIte, Nat.reduceEqDiff, Nat.reduceAdd, B3, t6] <;> rfl) (by simp only [reduceIte, Nat.reduceEqDiff, Nat.reduceAdd, B3, t6] <;> rfl) Tryz.ty22 Tryz.ty22 rfl).trans ap) rfl ?_
        refine WOps.eN (by simp only [reduceIte, Nat.reduceEqDiff, Nat.reduceAdd, B3, t4, op_storeE, sw] <;> rfl) ?_
        refine WOps.nil ?_
        have k5' : ∀ c, c < h.next + 8 → c ≠ h.next + 2 → (H5.set (h.next + 2) (.cells [.sliceU b' 0 (rvs.length + 1) 1] (fzNew 22))).t.get c = H2.t.get c := fun c hc hcm => by
          rw [get_set, if_neg hcm, k5 c (by omega) fun n => tabc.vec.ne (by omega) n, i2 c (by omega)]
        refine ⟨O5.set (by omega) (by omega) _, by rw [mark_set, m5, hmc, mb'], by rw [next_set]; omega, fun c hc => k5' c (by omega) (by omega), rfl, ⟨by rw [next_set]; omega, by rw [k5' _ (by omega) (by omega)]; exact st.q, by rw [k5' _ (by omega) (by omega)]; exact st.e, by rw [k5' _ (by omega) (by omega)]; exact st.d⟩, _, rvs ++ [rv], by rw [get_set, if_pos rfl], ?_⟩
        rw [htkw]
        exact tabc.snoc (H' := H5.set (h.next + 2) (.cells [.sliceU b' 0 (rvs.length + 1) 1] (fzNew 22))) Oc.lowN (V'.keep0 fun c hc => by rw [get_set, if_neg (by omega)]) (fun c n e => by injection e with e; omega)
          (fun c hc hcn hne => by rw [get_set, if_neg (by omega), k5 c hcn hne]) (m := m + 5) (by omega) (fun c n e => by have := htvm c n e; omega) i4 hrb (by omega) (by omega)
    · intro H5 O5 hm5 hlg ⟨S5, tv, rvs, g4, tab⟩
      rw [List.length_map, List.take_length] at tab
      have M5 : Mine h H5 := ⟨O5.ext, O5.low, O5.lowN, O5.next, by rw [hm5, M4.mark], by rw [hlg M4.mark, M4.log]⟩
      have l4 : evLoad Tryz.y22 (.ptr (h.next + 2) 0) H5 = .val tv H5 := load_word rfl g4 rfl
      have TT := tab.tab
      have htl := sm.len
      have ht2 : wt t ≤ 16000000 := by
        have := tab.ws
        rw [wt_sum]
        have : 31 * (t.map rowT).length = 31 * t.length := by rw [List.length_map]
        omega
      have ht3 : ∀ l ∈ t, ∀ x ∈ l, 0 ≤ x ∧ x ≤ 30 := fun l hl x hx => (sm.row l hl).2.2 x hx
      have ql := TT.len
      refine (show WRun Tryz.ctx S 21 Tryz.f21.ntmps none _ _ _ _ _ from ?_)
      (first | refine WRun.seq (WRun.region ?_) | refine WRun.seq (WRun.seq (WRun.region ?_)) | refine WRun.region ?_ | refine WRun.seq (WRun.seq (WRun.seq (WRun.region ?_)))); ((repeat (first | refine WOps.a rfl (by simp only [reduceIte, Nat.reduceEqDiff, Nat.reduceAdd, B2, t4, l4, ql] <;> rfl) ?_ | refine WOps.b rfl rfl rfl (by simp only [reduceIte, Nat.reduceEqDiff, Nat.reduceAdd, B2, t4, l4, ql] <;> rfl) ?_)); refine WOps.nil ?_)
      refine (show WRun Tryz.ctx S 21 Tryz.f21.ntmps none _ _ _ _ _ from ?_)
      refine WRun.block ?_
      refine WRun.loop (I := fun m T h' => ∃ x : Nat, m + x = t.length ∧ H5 = h' ∧ T.get 0 = some (.str s) ∧ T.get 2 = some (.ptr h.next 0) ∧ T.get 3 = some (.ptr (h.next + 1) 0) ∧ T.get 4 = some (.ptr (h.next + 2) 0) ∧ T.get 47 = some tv ∧ T.get 48 = some (.int .i64 t.length) ∧ T.get 49 = some (.int .i64 x)) (m := t.length) ?_
        ⟨0, by omega, rfl, (by simp only [reduceIte, Nat.reduceEqDiff, Nat.reduceAdd, B3, t0] <;> rfl), (by simp only [reduceIte, Nat.reduceEqDiff, Nat.reduceAdd, B3, t2] <;> rfl), (by simp only [reduceIte, Nat.reduceEqDiff, Nat.reduceAdd, B3, t3] <;> rfl), (by simp only [reduceIte, Nat.reduceEqDiff, Nat.reduceAdd, B3, t4] <;> rfl), (by simp only [reduceIte, Nat.reduceEqDiff, Nat.reduceAdd, B3, t0] <;> rfl), (by simp only [reduceIte, Nat.reduceEqDiff, Nat.reduceAdd, B3, t0] <;> rfl), (by simp only [reduceIte, Nat.reduceEqDiff, Nat.reduceAdd, B3, t0] <;> rfl)⟩
      clear t0 t2 t3 t4 t18 T
      rintro m T _ ⟨x, hm, rfl, t0, t2, t3, t4, t47, t48, t49⟩
      by_cases hx : x < t.length
      · have hlt : ((x : Int) < (t.length : Int)) = True := by simp; exact hx
        have ad := add1 x (by omega)
        obtain ⟨l, hl⟩ : ∃ l, t[x]? = some l := ⟨_, List.getElem?_eq_getElem hx⟩
        obtain ⟨b1, o1, a1, l1⟩ := TT.row x l hl H5 (Ext.refl _)
        have rl := TT.rlen x l hl
        (first | refine WRun.seq (WRun.region ?_) | refine WRun.seq (WRun.seq (WRun.region ?_)) | refine WRun.region ?_ | refine WRun.seq (WRun.seq (WRun.seq (WRun.region ?_)))); ((repeat (first | refine WOps.a rfl (by simp only [reduceIte, Nat.reduceEqDiff, Nat.reduceAdd, B3, t48, t49, hlt] <;> rfl) ?_ | refine WOps.b rfl rfl rfl (by simp only [reduceIte, Nat.reduceEqDiff, Nat.reduceAdd, B3, t48, t49, hlt] <;> rfl) ?_)); refine WOps.nil ?_)
        (first | refine WRun.condT (by simp only [reduceIte, Nat.reduceEqDiff, Nat.reduceAdd, B3, hlt] <;> rfl) ?_ | refine WRun.seq (WRun.condT (by simp only [reduceIte, Nat.reduceEqDiff, Nat.reduceAdd, B3, hlt] <;> rfl) ?_))
        refine WRun.skip ?_
        refine WRun.seq (WRun.block ?_)
        (first | refine WRun.seq (WRun.region ?_) | refine WRun.seq (WRun.seq (WRun.region ?_)) | refine WRun.region ?_ | refine WRun.seq (WRun.seq (WRun.seq (WRun.region ?_)))); ((repeat (first | refine WOps.a rfl (by simp only [reduceIte, Nat.reduceEqDiff, Nat.reduceAdd, B2, t47, t49, a1, l1] <;> rfl) ?_ | refine WOps.b rfl rfl rfl (by simp only [reduceIte, Nat.reduceEqDiff, Nat.reduceAdd, B2, t47, t49, a1, l1] <;> rfl) ?_)); refine WOps.nil ?_)
        have d3 : decide ((l.length : Int) = (t.length : Int)) = true := by
          have := (vt.2.2.1 x l hl).1
          simp; omega
        · (first | refine WRun.seq (WRun.region ?_) | refine WRun.seq (WRun.seq (WRun.region ?_)) | refine WRun.region ?_ | refine WRun.seq (WRun.seq (WRun.seq (WRun.region ?_)))); ((repeat (first | refine WOps.a rfl (by simp only [reduceIte, Nat.reduceEqDiff, Nat.reduceAdd, B2, t4, l4, rl, ql, d3] <;> rfl) ?_ | refine WOps.b rfl rfl rfl (by simp only [reduceIte, Nat.reduceEqDiff, Nat.reduceAdd, B2, t4, l4, rl, ql, d3] <;> rfl) ?_)); refine WOps.nil ?_)
          (first | refine WRun.condF (by simp only [reduceIte, Nat.reduceEqDiff, Nat.reduceAdd, B3, d3] <;> rfl) ?_ | refine WRun.seq (WRun.condF (by simp only [reduceIte, Nat.reduceEqDiff, Nat.reduceAdd, B3, d3] <;> rfl) ?_))
          refine WRun.skip ?_
          (first | refine WRun.seq (WRun.region ?_) | refine WRun.seq (WRun.seq (WRun.region ?_)) | refine WRun.region ?_ | refine WRun.seq (WRun.seq (WRun.seq (WRun.region ?_)))); ((repeat (first | refine WOps.a rfl (by simp only [reduceIte, Nat.reduceEqDiff, Nat.reduceAdd, B3, t49, ad] <;> rfl) ?_ | refine WOps.b rfl rfl rfl (by simp only [reduceIte, Nat.reduceEqDiff, Nat.reduceAdd, B3, t49, ad] <;> rfl) ?_)); refine WOps.nil ?_)
          exact ⟨rfl, m - 1, by omega, x + 1, by omega, rfl, (by simp only [reduceIte, Nat.reduceEqDiff, Nat.reduceAdd, B3, t0] <;> rfl), (by simp only [reduceIte, Nat.reduceEqDiff, Nat.reduceAdd, B3, t2] <;> rfl), (by simp only [reduceIte, Nat.reduceEqDiff, Nat.reduceAdd, B3, t3] <;> rfl), (by simp only [reduceIte, Nat.reduceEqDiff, Nat.reduceAdd, B3, t4] <;> rfl), (by simp only [reduceIte, Nat.reduceEqDiff, Nat.reduceAdd, B3, t47] <;> rfl), (by simp only [reduceIte, Nat.reduceEqDiff, Nat.reduceAdd, B3, t48] <;> rfl), (by simp only [reduceIte, Nat.reduceEqDiff, Nat.reduceAdd, B3, t49] <;> rfl)⟩
      · have hlt : ((x : Int) < (t.length : Int)) = False := by simp; omega
        (first | refine WRun.seq (WRun.region ?_) | refine WRun.seq (WRun.seq (WRun.region ?_)) | refine WRun.region ?_ | refine WRun.seq (WRun.seq (WRun.seq (WRun.region ?_)))); ((repeat (first | refine WOps.a rfl (by simp only [reduceIte, Nat.reduceEqDiff, Nat.reduceAdd, B3, t48, t49, hlt] <;> rfl) ?_ | refine WOps.b rfl rfl rfl (by simp only [reduceIte, Nat.reduceEqDiff, Nat.reduceAdd, B3, t48, t49, hlt] <;> rfl) ?_)); refine WOps.nil ?_)
        (first | refine WRun.condF (by simp only [reduceIte, Nat.reduceEqDiff, Nat.reduceAdd, B3, hlt] <;> rfl) ?_ | refine WRun.seq (WRun.condF (by simp only [reduceIte, Nat.reduceEqDiff, Nat.reduceAdd, B3, hlt] <;> rfl) ?_))
        refine WRun.exit ?_
        refine WRun.seq (WRun.seq (WRun.region ?_))
        iterate 1 (first | refine WOps.a rfl (by simp only [reduceIte, Nat.reduceEqDiff, Nat.reduceAdd, B2, t4, l4] <;> rfl) ?_ | refine WOps.vG ((guard_bool rfl rfl (by simp only [reduceIte, Nat.reduceEqDiff, Nat.reduceAdd, B2, t4, l4] <;> rfl)).trans rfl) (by simp only [reduceIte, Nat.reduceEqDiff, Nat.reduceAdd, B2, t4, l4] <;> rfl) rfl ?_ | refine WOps.nG (by first | exact (guard_bool rfl rfl (by simp only [reduceIte, Nat.reduceEqDiff, Nat.reduceAdd, B2, t4, l4] <;> rfl)).trans rfl | exact guard_not rfl rfl (by simp only [reduceIte, Nat.reduceEqDiff, Nat.reduceAdd, B2, t4, l4] <;> rfl)) rfl ?_)
        have c40 := Tryz.c40 (S := S) hS40 hS50 hS77 hS88 hS51 h16 O5.lowN TT (by omega) ht2 fun l hl x hx => by have := ht3 l hl x hx; omega
        refine WOps.cN (op_call1 (v := tv) (by simp only [reduceIte, Nat.reduceEqDiff, Nat.reduceAdd, B3, t4] <;> rfl) Tryz.fn40 Tryz.ex40) c40 rfl ?_
        have d4 : decide (tabT t = s) = true := by simp [hst]
        have sn : ∀ k : Bool, binV Tryz.ctx.ty .neq 9 k (.str (tabT t)) (.str s) = some (.bool false) := fun k => by rw [str_neq, d4]; rfl
        ((repeat (first | refine WOps.a rfl (by simp only [reduceIte, Nat.reduceEqDiff, Nat.reduceAdd, B3, t0, sn] <;> rfl) ?_ | refine WOps.b rfl rfl rfl (by simp only [reduceIte, Nat.reduceEqDiff, Nat.reduceAdd, B3, t0, sn] <;> rfl) ?_)); refine WOps.nil ?_)
        (first | refine WRun.condF (by simp only [reduceIte, Nat.reduceEqDiff, Nat.reduceAdd, B3, t0] <;> rfl) ?_ | refine WRun.seq (WRun.condF (by simp only [reduceIte, Nat.reduceEqDiff, Nat.reduceAdd, B3, t0] <;> rfl) ?_))
        refine WRun.skip ?_
        have bd := tab.vec.bd
        have hn6 : (H5.add (.cells [.nils] (fzNew 24))).t.get H5.next = some (.cells [.nils] (fzNew 24)) := get_add_self
        have sw6 : evStore Tryz.y24 (.ptr H5.next 0) (.agg [tv]) (H5.add (.cells [.nils] (fzNew 24))) = .skip ((H5.add (.cells [.nils] (fzNew 24))).set H5.next (.cells [tv] (fzNew 24))) := store_cells1 (c := [.nils]) rfl rfl tab.vec.one.1 hn6 (by rw [fz25]; decide) (by decide)
        (first | refine WRun.seq (WRun.region ?_) | refine WRun.seq (WRun.seq (WRun.region ?_)) | refine WRun.region ?_ | refine WRun.seq (WRun.seq (WRun.seq (WRun.region ?_)))); ((repeat (first | refine WOps.a rfl (by simp only [reduceIte, Nat.reduceEqDiff, Nat.reduceAdd, B2, t4, l4, bd, z24, op_storeE, sw6] <;> rfl) ?_ | refine WOps.b rfl rfl rfl (by simp only [reduceIte, Nat.reduceEqDiff, Nat.reduceAdd, B2, t4, l4, bd, z24, op_storeE, sw6] <;> rfl) ?_)); refine WOps.nil ?_)
        have n5 := S5.next
        have M6 : Mine h ((H5.add (.cells [.nils] (fzNew 24))).set H5.next (.cells [tv] (fzNew 24))) := (M5.add _).set (by omega) (by rw [next_add]; omega) _
        have k6 : ∀ c, c < H5.next → ((H5.add (.cells [.nils] (fzNew 24))).set H5.next (.cells [tv] (fzNew 24))).t.get c = H5.t.get c := fun c hc => by rw [get_set, if_neg (by omega), get_add, if_neg (by omega)]
        have l6 : evLoad Tryz.y24 (.ptr H5.next 0) ((H5.add (.cells [.nils] (fzNew 24))).set H5.next (.cells [tv] (fzNew 24))) = .val (.agg [tv]) ((H5.add (.cells [.nils] (fzNew 24))).set H5.next (.cells [tv] (fzNew 24))) := load24 (z := fzNew 24) (by rw [get_set, if_pos rfl])
        have S6 : St21 h.next 0 ((H5.add (.cells [.nils] (fzNew 24))).set H5.next (.cells [tv] (fzNew 24))) := S5.keep (by show H5.next ≤ H5.next + 1; omega) fun c hc _ _ => k6 c (by omega)
        have tab6 := tab.keep (H' := (H5.add (.cells [.nils] (fzNew 24))).set H5.next (.cells [tv] (fzNew 24))) (fun c _ hc => k6 c hc) O5.lowN
        have nx6 : ((H5.add (.cells [.nils] (fzNew 24))).set H5.next (.cells [tv] (fzNew 24))).next = H5.next + 1 := rfl
        refine WRun.withT (P := fun T => T.get 0 = some (.str s) ∧ T.get 2 = some (.ptr h.next 0) ∧ T.get 3 = some (.ptr (h.next + 1) 0) ∧ T.get 12 = some (.ptr H5.next 0)) ⟨(by simp only [reduceIte, Nat.reduceEqDiff, Nat.reduceAdd, B3, t0] <;> rfl), (by simp only [reduceIte, Nat.reduceEqDiff, Nat.reduceAdd, B3, t2] <;> rfl), (by simp only [reduceIte, Nat.reduceEqDiff, Nat.reduceAdd, B3, t3] <;> rfl), (by simp only [reduceIte, Nat.reduceEqDiff, Nat.reduceAdd, B3, t0] <;> rfl)⟩ ?_
        generalize ((H5.add (.cells [.nils] (fzNew 24))).set H5.next (.cells [tv] (fzNew 24))) = H6 at M6 k6 l6 S6 tab6 nx6
        clear t0 t2 t3 t4 t47 t48 t49 T
        rintro T ⟨t0, t2, t3, t12⟩
        refine WRun.seq (WRun.seq (WRun.region ?_))
        iterate 1 (first | refine WOps.a rfl (by simp only [reduceIte, Nat.reduceEqDiff, Nat.reduceAdd, B2, t12, l6] <;> rfl) ?_ | refine WOps.vG ((guard_bool rfl rfl (by simp only [reduceIte, Nat.reduceEqDiff, Nat.reduceAdd, B2, t12, l6] <;> rfl)).trans rfl) (by simp only [reduceIte, Nat.reduceEqDiff, Nat.reduceAdd, B2, t12, l6] <;> rfl) rfl ?_ | refine WOps.nG (by first | exact (guard_bool rfl rfl (by simp only [reduceIte, Nat.reduceEqDiff, Nat.reduceAdd, B2, t12, l6] <;> rfl)).trans rfl | exact guard_not rfl rfl (by simp only [reduceIte, Nat.reduceEqDiff, Nat.reduceAdd, B2, t12, l6] <;> rfl)) rfl ?_)
        have main : ∀ bb, (bb = true ↔ VT t) → RunCall Tryz.ctx S 19 [.agg [tv]] H6 ⟨.bool bb, H6⟩ := fun bb hbb => Tryz.c19 hS19 hS41 hS42 hS43 M6.lowN tab6.tab (by omega) hbb
        · refine WOps.cN (op_call1 (v := .agg [tv]) (by simp only [reduceIte, Nat.reduceEqDiff, Nat.reduceAdd, B3, t12] <;> rfl) Tryz.fn19 Tryz.ex19) (main true (by simp [vt])) rfl ?_
          ((repeat (first | refine WOps.a rfl (by simp only [reduceIte, Nat.reduceEqDiff, Nat.reduceAdd, B3, t12] <;> rfl) ?_ | refine WOps.b rfl rfl rfl (by simp only [reduceIte, Nat.reduceEqDiff, Nat.reduceAdd, B3, t12] <;> rfl) ?_)); refine WOps.nil ?_)
          (first | refine WRun.condF (by simp only [reduceIte, Nat.reduceEqDiff, Nat.reduceAdd, B3, t12] <;> rfl) ?_ | refine WRun.seq (WRun.condF (by simp only [reduceIte, Nat.reduceEqDiff, Nat.reduceAdd, B3, t12] <;> rfl) ?_))
          refine WRun.skip ?_
          have sw1 : evStore Tryz.y24 (.ptr h.next 0) (.agg [tv]) H6 = .skip (H6.set h.next (.cells [tv] (fzNew 24))) := store_cells1 (c := [.nils]) rfl rfl tab.vec.one.1 S6.q (by rw [fz25]; decide) (by decide)
          have sw2 : evStore Tryz.y29 (.ptr (h.next + 1) 0) (.int .i64 0) (H6.set h.next (.cells [tv] (fzNew 24))) = .skip ((H6.set h.next (.cells [tv] (fzNew 24))).set (h.next + 1) (.cells [.int .i64 0] (fzNew 29))) :=
            store_cells1 (c := [.int .i64 0]) rfl rfl rfl (by rw [get_set, if_neg (by omega)]; exact S6.e) (by rw [fz30]; decide) (by decide)
          (first | refine WRun.seq (WRun.region ?_) | refine WRun.seq (WRun.seq (WRun.region ?_)) | refine WRun.region ?_ | refine WRun.seq (WRun.seq (WRun.seq (WRun.region ?_)))); ((repeat (first | refine WOps.a rfl (by simp only [reduceIte, Nat.reduceEqDiff, Nat.reduceAdd, B2, t12, t2, t3, l6, op_storeE, sw1, sw2] <;> rfl) ?_ | refine WOps.b rfl rfl rfl (by simp only [reduceIte, Nat.reduceEqDiff, Nat.reduceAdd, B2, t12, t2, t3, l6, op_storeE, sw1, sw2] <;> rfl) ?_)); refine WOps.nil ?_)
          have n6 := S6.next
          refine WRun.ret ⟨trivial, tv, 0, _, atEnd21 (z := fzNew 24) (z' := fzNew 29) trivial (by rw [get_set, if_neg (by omega), get_set, if_neg (by omega)]; exact S6.d) (by simp only [reduceIte, Nat.reduceEqDiff, Nat.reduceAdd, B3, t2] <;> rfl) (by simp only [reduceIte, Nat.reduceEqDiff, Nat.reduceAdd, B3, t3] <;> rfl) (by rw [get_del, if_neg (by omega), get_set, if_neg (by omega), get_set, if_pos rfl]) (by rw [get_del, if_neg (by omega), get_set, if_pos rfl]), mine_del ((M6.set (Nat.le_refl _) (by omega) _).set (by omega) (by rw [next_set]; omega) _) (by omega), _, fun H' hk => (tab6.keep0 fun c hc => ?_).tab, tab.kind (by omega)⟩
          rw [hk c (by omega), get_del, if_neg (by omega), get_set, if_neg (by omega), get_set, if_neg (by omega)]
  obtain ⟨e, T, df, h', h1, h2, tv, x, H, h3, h4, R, h5, h9⟩ := key
  have hH : H = ⟨H.t, H.next, H.mark, []⟩ := by rw [← h4.log]
  rw [hH] at h3
  rcases h9 with ⟨rfl, e⟩ | ⟨b, n, rfl, hb⟩
  · exact absurd e sm.pos
  · have hbf : Nat.blt b h.next = false := by
      cases q : Nat.blt b h.next with
      | true => have := blt_iff.1 q; omega
      | false => rfl
    have hx9 : (∀ l ∈ t, ∀ x ∈ l, 0 ≤ x ∧ x ≤ 30) := fun l hl x hx => (sm.row l hl).2.2 x hx
    exact ⟨_, x, ⟨H.t, H.next, h.mark, h.log⟩, R, WRun.callsN hS Tryz.fn21 rfl rfl (by simp [AV.all, allL, hbf]) ⟨e, T, df, h', h1, h3⟩, ⟨h4.ext, h4.lowN, h4.next, rfl, rfl, t, R, h5, .inr ⟨b, n, rfl, hb⟩, by have := sm.len; omega, sm.wt, hx9⟩, h5, .inr ⟨b, n, rfl, hb⟩⟩
end Go.Proofs
namespace Go.Proofs
open Go.Ev
set_option maxRecDepth 100000
/-! ### What is read of a proof's text -/
theorem cut_at (x r : List UInt8) (h : ∀ a ∈ x, a ≠ 32) : Lib.cut (x ++ ([32] ++ r)) [32] = (x, r, true) := by
  have i : Lib.index (x ++ ([32] ++ r)) [32] = (x.length : Nat) := index_at 32 [] x r h
  unfold Lib.cut
  rw [i, if_pos (by omega)]
  simp
theorem cut_none (x : List UInt8) (h : ∀ a ∈ x, a ≠ 32) : Lib.cut x [32] = (x, [], false) := by
  unfold Lib.cut
  rw [index_none 32 [] x h, if_neg (by decide)]
theorem word_no32 : ∀ k : Nat, k < 10 → ∀ a ∈ wordT (Int.ofNat k), a ≠ 32 := by decide +kernel
theorem kind_word : ∀ k : Nat, k < 10 → 1 ≤ k → kindTo (wordT (Int.ofNat k)) 9 = Int.ofNat k := by decide +kernel
theorem word32 {k : Int} (h1 : 1 ≤ k) (h9 : k ≤ 9) : ∀ a ∈ wordT k, a ≠ 32 := by
  obtain ⟨n, rfl⟩ : ∃ n : Nat, k = Int.ofNat n := ⟨k.toNat, by show k = (k.toNat : Int); omega⟩
  have h9 : (n : Int) ≤ 9 := h9
  exact word_no32 n (by omega)
theorem kindWord {k : Int} (h1 : 1 ≤ k) (h9 : k ≤ 9) : kindTo (wordT k) 9 = k := by
  obtain ⟨n, rfl⟩ : ∃ n : Nat, k = Int.ofNat n := ⟨k.toNat, by show k = (k.toNat : Int); omega⟩
  have h9 : (n : Int) ≤ 9 := h9
  have h1 : 1 ≤ (n : Int) := h1
  exact kind_word n (by omega) (by omega)
theorem isType_small {l : List Int} {m : Int} (h5 : m ≤ 5) (h : isTypeB m m l = true) : ∀ c ∈ l, 0 ≤ c ∧ c ≤ 1000 := fun c hc => by
  obtain ⟨i, hi⟩ := List.getElem?_of_mem hc
  have := (isTypeB_spec h).1 i c hi
  omega
theorem isType_ne {l : List Int} {m : Int} (h1 : 1 ≤ m) (h : isTypeB m m l = true) : l ≠ [] := fun e => by
  subst e
  have := (isTypeB_spec h).2.2
  simp at this
  omega
/-- The text of a valid proof is cut into what it was made of. -/
theorem read_fmt {k m : Int} {t : List (List Int)} {l : List Int} (v : VP k m t l) {Q : List UInt8 → List (List Int) → Prop} (hQ : ∀ t', Q (tabT t) t' → t' = t) :
    ¬BadP (fmtT k m t l) ∧ (∀ k' m' t' l', Read Q (fmtT k m t l) k' m' t' l' → k' = k ∧ m' = m ∧ t' = t ∧ l' = l) ∧ (kindTo (Lib.cut (fmtT k m t l) [32]).1 9 = 4 → k = 4 ∧ (Lib.cut (fmtT k m t l) [32]).2.1 = tabT t) := by
  obtain ⟨k1, k9⟩ := v.range
  have kw := kindWord k1 k9
  have w32 := word32 k1 k9
  unfold VP at v
  unfold fmtT BadP Read
  by_cases h3 : k = 3
  · subst h3
    rw [if_pos rfl] at v
    obtain ⟨rfl, rfl, m1, m2⟩ := v
    rw [if_pos rfl, cut_at _ _ w32]
    simp only
    rw [kw]
    have sp : splitL (itoaK m) [32] = [itoaK m] := splitL_pcs (by simp) (.last (by rw [index_none 32 [] _ fun a ha => (byte_ne (itoa_byte (by omega) (by omega) a ha)).1]; decide))
    have nu : numsO [itoaK m] = some [m] := nums_itoa (l := [m]) (by simp; omega)
    rw [sp, nu]
    refine ⟨fun z => by simp at z, fun k' m' t' l' z => ?_, fun z => by omega⟩
    obtain ⟨rfl, z⟩ := z
    rw [if_neg (by decide), if_pos trivial] at z
    obtain ⟨rfl, z⟩ := z
    simp at z
    exact ⟨rfl, z.1.symm, rfl, z.2⟩
  rw [if_neg h3] at v ⊢
  by_cases h4 : k = 4
  · subst h4
    rw [if_pos rfl] at v
    obtain ⟨rfl, rfl, vt⟩ := v
    rw [if_pos rfl, cut_at _ _ w32]
    simp only
    rw [kw]
    refine ⟨fun z => z.1 rfl, fun k' m' t' l' z => ?_, fun _ => by simp⟩
    obtain ⟨rfl, z⟩ := z
    rw [if_pos rfl] at z
    exact ⟨rfl, z.1, hQ _ z.2.2, z.2.1⟩
  rw [if_neg h4] at v ⊢
  by_cases h5 : k = 5
  · subst h5
    rw [if_pos rfl] at v
    obtain ⟨rfl, m1, m5, ty⟩ := v
    have tys := isType_small m5 ty
    have tyn := isType_ne m1 ty
    rw [if_pos rfl]
    have e : wordT 5 ++ ((([32] ++ itoaK m) ++ [32]) ++ rowT l) = wordT 5 ++ ([32] ++ rowT (m :: l)) := by
      cases l with
      | nil => exact absurd rfl tyn
      | cons a l => simp [rowT, joinT, List.append_assoc]
    rw [e, cut_at _ _ w32]
    simp only
    rw [kw]
    have hall : ∀ y ∈ m :: l, 0 ≤ y ∧ y ≤ 1000 := fun y hy => by
      rcases List.mem_cons.1 hy with rfl | hy
      · omega
      · exact tys y hy
    have sp : splitL (rowT (m :: l)) [32] = (m :: l).map itoaK := splitL_pcs (by simp) (pcs_row hall (by simp))
    rw [sp, nums_itoa hall]
    refine ⟨fun z => by simp at z, fun k' m' t' l' z => ?_, fun z => by omega⟩
    obtain ⟨rfl, z⟩ := z
    rw [if_neg (by decide), if_pos trivial] at z
    obtain ⟨rfl, z⟩ := z
    simp at z
    exact ⟨rfl, z.1.symm, rfl, z.2.symm⟩
  rw [if_neg h5] at v ⊢
  obtain ⟨rfl, rfl, rfl, _, _⟩ := v
  rw [cut_none _ w32]
  simp only
  rw [kw]
  refine ⟨fun z => by simp at z, fun k' m' t' l' z => ?_, fun z => absurd z h4⟩
  obtain ⟨rfl, z⟩ := z
  rw [if_neg h4, if_neg (by simp)] at z
  exact ⟨rfl, z.2.1, z.1, z.2.2⟩
theorem fmt_len {k m : Int} {t : List (List Int)} {l : List Int} (v : VP k m t l) : (fmtT k m t l).length ≤ 10000 := by
  obtain ⟨k1, k9⟩ := v.range
  have hw := wordT_len k
  have lenI : ∀ n : Int, 0 ≤ n → n ≤ 1000 → (itoaK n).length ≤ 4 := fun n h0 h1 => by
    obtain ⟨j, rfl⟩ : ∃ j : Nat, n = Int.ofNat j := ⟨n.toNat, by show n = (n.toNat : Int); omega⟩
    have h1 : (j : Int) ≤ 1000 := h1
    exact (digits_small j (by omega)).2
  unfold VP at v
  unfold fmtT
  by_cases h3 : k = 3
  · rw [if_pos h3] at v ⊢
    have := lenI m (by omega) (by omega)
    simp only [List.length_append, List.length_cons, List.length_nil]
    omega
  rw [if_neg h3] at v ⊢
  by_cases h4 : k = 4
  · rw [if_pos h4] at v ⊢
    have := v.2.2.sm.tabLen
    simp only [List.length_append, List.length_cons, List.length_nil]
    omega
  rw [if_neg h4] at v ⊢
  by_cases h5 : k = 5
  · rw [if_pos h5] at v ⊢
    obtain ⟨_, m1, m5, ty⟩ := v
    have := lenI m (by omega) (by omega)
    have hl : l.length ≤ 5 := by
      have h1 := isTypeB_spec ty
      have key : ∀ r : List Int, (∀ c ∈ r, 1 ≤ c) → (r.length : Int) ≤ r.sum := by
        intro r
        induction r with
        | nil => intro _; simp
        | cons a r ih =>
          intro h
          have := h a List.mem_cons_self
          have := ih fun c hc => h c (List.mem_cons_of_mem _ hc)
          rw [List.sum_cons, List.length_cons]; omega
      have := key l fun c hc => by
        obtain ⟨i, hi⟩ := List.getElem?_of_mem hc
        exact (h1.1 i c hi).1
      omega
    have := joinT_len (sep := [32]) (l := l.map itoaK) (k := 4) fun x hx => by
      obtain ⟨y, hy, rfl⟩ := List.mem_map.1 hx
      have := isType_small m5 ty y hy
      exact lenI y this.1 this.2
    rw [List.length_map] at this
    have e : ([32] : List UInt8).length = 1 := rfl
    rw [e] at this
    have : (rowT l).length ≤ l.length * (4 + 1) := this
    simp only [List.length_append, List.length_cons, List.length_nil]
    omega
  rw [if_neg h5]
  omega
end Go.Proofs
