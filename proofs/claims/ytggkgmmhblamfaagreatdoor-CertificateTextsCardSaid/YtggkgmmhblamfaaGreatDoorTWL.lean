/- Part of the proof. -/
import Derived.Test.YtggkgmmhblamfaaGreatDoorTWK
import Derived.Test.YtggkgmmhblamfaaGreatDoorTWJ
set_option linter.all false
namespace Go.Proofs
open Go.Ev
set_option maxRecDepth 100000
set_option maxHeartbeats 4000000
theorem sum_nonneg1 : ∀ {l : List Int}, (∀ c ∈ l, 1 ≤ c) → 0 ≤ l.sum
  | [], _ => by simp
  | a :: l, h => by
    have := h a List.mem_cons_self
    have := sum_nonneg1 fun c hc => h c (List.mem_cons_of_mem _ hc)
    rw [List.sum_cons]; omega
theorem isTypeB_mk : ∀ {l : List Int} {n last : Int}, (∀ c ∈ l, 1 ≤ c) → (∀ (i : Nat) (c d : Int), l[i]? = some c → l[i + 1]? = some d → d ≤ c) → l.sum = n → (∀ c, l[0]? = some c → c ≤ last) → isTypeB n last l = true
  | [], n, last, _, _, hs, _ => by
    rw [isTypeB]
    simp at hs
    simp [← hs]
  | a :: l, n, last, h1, h2, hs, h3 => by
    have ha := h1 a List.mem_cons_self
    have hl := sum_nonneg1 fun c hc => h1 c (List.mem_cons_of_mem _ hc)
    have hla := h3 a rfl
    rw [List.sum_cons] at hs
    rw [isTypeB, if_neg (by omega)]
    exact isTypeB_mk (fun c hc => h1 c (List.mem_cons_of_mem _ hc)) (fun i c d hc hd => h2 (i + 1) c d (by simpa using hc) (by simpa using hd)) (by omega) (fun c hc => h2 0 a c rfl (by simpa using hc))
theorem Tryz.c7_3f {S : Summ} (hS7 : S.get 7 = none) {h : AH} (low : ∀ b x, h.t.get b = some x → b < h.next) {m : Int} {tv cv : AV} {t : List (List Int)} {R : Nat → AV} {l : List Int} (q : PrW h m tv cv t R l) (v : t = [] ∧ l = [] ∧ ¬(1 ≤ m ∧ m ≤ 1000)) :
    RunCall Tryz.ctx S 7 [.agg [.int .i64 3, .int .i64 m, tv, cv]] h ⟨.bool false, h⟩ := by
  refine WRun.calls1 (r := 2) hS7 Tryz.fn7 rfl rfl rfl rfl ?_
  have hO := (Mine.start low).add (.cells [.int .i64 3, .int .i64 m, tv, cv] 0)
  have hb : ((⟨h.t, h.next, h.next, []⟩ : AH).add (.cells [.int .i64 3, .int .i64 m, tv, cv] 0)).t.get h.next = some (.cells [.int .i64 3, .int .i64 m, tv, cv] 0) := get_add_self
  have g0 : (argsT [.agg [.int .i64 3, .int .i64 m, tv, cv]] 0 .leaf).get 0 = some (.agg [.int .i64 3, .int .i64 m, tv, cv]) := rfl
  generalize argsT [.agg [.int .i64 3, .int .i64 m, tv, cv]] 0 .leaf = T at g0
  (first | refine WRun.seq (WRun.region ?_) | refine WRun.seq (WRun.seq (WRun.region ?_)) | refine WRun.region ?_ | refine WRun.seq (WRun.seq (WRun.seq (WRun.region ?_)))); ((repeat (first | refine WOps.a rfl (by simp only [reduceIte, Nat.reduceEqDiff, Nat.reduceAdd, B3, g0] <;> rfl) ?_ | refine WOps.b rfl rfl rfl (by simp only [reduceIte, Nat.reduceEqDiff, Nat.reduceAdd, B3, g0] <;> rfl) ?_)); refine WOps.nil ?_)
  generalize ((⟨h.t, h.next, h.next, []⟩ : AH).add (.cells [.int .i64 3, .int .i64 m, tv, cv] 0)) = H at hO hb
  have l0 : evLoad Tryz.y3 (.ptr h.next 0) H = .val (.int .i64 3) H := load_word rfl hb rfl
  have l1 : evLoad Tryz.y3 (.ptr h.next 1) H = .val (.int .i64 m) H := load_word rfl hb rfl
  have l2' : evLoad Tryz.y22 (.ptr h.next 2) H = .val tv H := load_word rfl hb rfl
  have l3 : evLoad Tryz.y25 (.ptr h.next 3) H = .val cv H := load_word rfl hb rfl
  have ql := q.tab.len
  have rl := (q.row).len
  obtain ⟨rfl, rfl, hm⟩ := v
  have z1 : ((([] : List Int).length : Nat) : Int) = 0 := rfl
  have z2 : ((([] : List (List Int)).length : Nat) : Int) = 0 := rfl
  have z0 : decide ((0 : Int) < 0) = false := rfl
  (first | refine WRun.seq (WRun.region ?_) | refine WRun.seq (WRun.seq (WRun.region ?_)) | refine WRun.region ?_ | refine WRun.seq (WRun.seq (WRun.seq (WRun.region ?_)))); ((repeat (first | refine WOps.a rfl (by simp only [reduceIte, Nat.reduceEqDiff, Nat.reduceAdd, B2, g0, l0] <;> rfl) ?_ | refine WOps.b rfl rfl rfl (by simp only [reduceIte, Nat.reduceEqDiff, Nat.reduceAdd, B2, g0, l0] <;> rfl) ?_)); refine WOps.nil ?_)
  (first | refine WRun.seq (WRun.region ?_) | refine WRun.seq (WRun.seq (WRun.region ?_)) | refine WRun.region ?_ | refine WRun.seq (WRun.seq (WRun.seq (WRun.region ?_)))); ((repeat (first | refine WOps.a rfl (by simp only [reduceIte, Nat.reduceEqDiff, Nat.reduceAdd, B2, g0, l0, l1, l2', l3, ql, rl, z1, z2, z0] <;> rfl) ?_ | refine WOps.b rfl rfl rfl (by simp only [reduceIte, Nat.reduceEqDiff, Nat.reduceAdd, B2, g0, l0, l1, l2', l3, ql, rl, z1, z2, z0] <;> rfl) ?_)); refine WOps.nil ?_)
  (first | refine WRun.condF (by simp only [reduceIte, Nat.reduceEqDiff, Nat.reduceAdd, B3, g0] <;> rfl) ?_ | refine WRun.seq (WRun.condF (by simp only [reduceIte, Nat.reduceEqDiff, Nat.reduceAdd, B3, g0] <;> rfl) ?_))
  refine WRun.skip ?_
  (first | refine WRun.seq (WRun.region ?_) | refine WRun.seq (WRun.seq (WRun.region ?_)) | refine WRun.region ?_ | refine WRun.seq (WRun.seq (WRun.seq (WRun.region ?_)))); ((repeat (first | refine WOps.a rfl (by simp only [reduceIte, Nat.reduceEqDiff, Nat.reduceAdd, B2, g0, l0] <;> rfl) ?_ | refine WOps.b rfl rfl rfl (by simp only [reduceIte, Nat.reduceEqDiff, Nat.reduceAdd, B2, g0, l0] <;> rfl) ?_)); refine WOps.nil ?_)
  refine (show WRun Tryz.ctx S 7 Tryz.f7.ntmps none _ _ _ _ _ from ?_)
  refine WRun.block ?_
  (first | refine WRun.seq (WRun.region ?_) | refine WRun.seq (WRun.seq (WRun.region ?_)) | refine WRun.region ?_ | refine WRun.seq (WRun.seq (WRun.seq (WRun.region ?_)))); ((repeat (first | refine WOps.a rfl (by simp only [reduceIte, Nat.reduceEqDiff, Nat.reduceAdd, B3, g0] <;> rfl) ?_ | refine WOps.b rfl rfl rfl (by simp only [reduceIte, Nat.reduceEqDiff, Nat.reduceAdd, B3, g0] <;> rfl) ?_)); refine WOps.nil ?_)
  (first | refine WRun.condT (by simp only [reduceIte, Nat.reduceEqDiff, Nat.reduceAdd, B3, g0] <;> rfl) ?_ | refine WRun.seq (WRun.condT (by simp only [reduceIte, Nat.reduceEqDiff, Nat.reduceAdd, B3, g0] <;> rfl) ?_))
  by_cases m1 : 1 ≤ m
  · have e1 : decide (1 ≤ m) = true := by simpa using m1
    have e2 : decide (m ≤ 1000) = false := by simp; omega
    (first | refine WRun.seq (WRun.region ?_) | refine WRun.seq (WRun.seq (WRun.region ?_)) | refine WRun.region ?_ | refine WRun.seq (WRun.seq (WRun.seq (WRun.region ?_)))); ((repeat (first | refine WOps.a rfl (by simp only [reduceIte, Nat.reduceEqDiff, Nat.reduceAdd, B2, g0, l1, e1, e2] <;> rfl) ?_ | refine WOps.b rfl rfl rfl (by simp only [reduceIte, Nat.reduceEqDiff, Nat.reduceAdd, B2, g0, l1, e1, e2] <;> rfl) ?_)); refine WOps.nil ?_)
    exact WRun.ret ⟨trivial, rfl, hO.log, (by simp only [reduceIte, Nat.reduceEqDiff, Nat.reduceAdd, B3, g0] <;> rfl)⟩
  · have e1 : decide (1 ≤ m) = false := by simpa using m1
    (first | refine WRun.seq (WRun.region ?_) | refine WRun.seq (WRun.seq (WRun.region ?_)) | refine WRun.region ?_ | refine WRun.seq (WRun.seq (WRun.seq (WRun.region ?_)))); ((repeat (first | refine WOps.a rfl (by simp only [reduceIte, Nat.reduceEqDiff, Nat.reduceAdd, B2, g0, l1, e1] <;> rfl) ?_ | refine WOps.b rfl rfl rfl (by simp only [reduceIte, Nat.reduceEqDiff, Nat.reduceAdd, B2, g0, l1, e1] <;> rfl) ?_)); refine WOps.nil ?_)
    exact WRun.ret ⟨trivial, rfl, hO.log, (by simp only [reduceIte, Nat.reduceEqDiff, Nat.reduceAdd, B3, g0] <;> rfl)⟩
theorem Tryz.c7_4f {S : Summ} (hS7 : S.get 7 = none) (G : Gets S) {h : AH} (low : ∀ b x, h.t.get b = some x → b < h.next) {m : Int} {tv cv : AV} {t : List (List Int)} {R : Nat → AV} {l : List Int} (q : PrW h m tv cv t R l) (v : m = 0 ∧ l = [] ∧ ¬VT t) :
    RunCall Tryz.ctx S 7 [.agg [.int .i64 4, .int .i64 m, tv, cv]] h ⟨.bool false, h⟩ := by
  refine WRun.calls1 (r := 2) hS7 Tryz.fn7 rfl rfl rfl rfl ?_
  have hO := (Mine.start low).add (.cells [.int .i64 4, .int .i64 m, tv, cv] 0)
  have hb : ((⟨h.t, h.next, h.next, []⟩ : AH).add (.cells [.int .i64 4, .int .i64 m, tv, cv] 0)).t.get h.next = some (.cells [.int .i64 4, .int .i64 m, tv, cv] 0) := get_add_self
  have g0 : (argsT [.agg [.int .i64 4, .int .i64 m, tv, cv]] 0 .leaf).get 0 = some (.agg [.int .i64 4, .int .i64 m, tv, cv]) := rfl
  generalize argsT [.agg [.int .i64 4, .int .i64 m, tv, cv]] 0 .leaf = T at g0
  (first | refine WRun.seq (WRun.region ?_) | refine WRun.seq (WRun.seq (WRun.region ?_)) | refine WRun.region ?_ | refine WRun.seq (WRun.seq (WRun.seq (WRun.region ?_)))); ((repeat (first | refine WOps.a rfl (by simp only [reduceIte, Nat.reduceEqDiff, Nat.reduceAdd, B3, g0] <;> rfl) ?_ | refine WOps.b rfl rfl rfl (by simp only [reduceIte, Nat.reduceEqDiff, Nat.reduceAdd, B3, g0] <;> rfl) ?_)); refine WOps.nil ?_)
  generalize ((⟨h.t, h.next, h.next, []⟩ : AH).add (.cells [.int .i64 4, .int .i64 m, tv, cv] 0)) = H at hO hb
  have l0 : evLoad Tryz.y3 (.ptr h.next 0) H = .val (.int .i64 4) H := load_word rfl hb rfl
  have l1 : evLoad Tryz.y3 (.ptr h.next 1) H = .val (.int .i64 m) H := load_word rfl hb rfl
  have l2 : evLoad Tryz.y24 (.ptr h.next 2) H = .val (.agg [tv]) H := by rw [load_ptr, hb]; rfl
  have l2' : evLoad Tryz.y22 (.ptr h.next 2) H = .val tv H := load_word rfl hb rfl
  have l3 : evLoad Tryz.y25 (.ptr h.next 3) H = .val cv H := load_word rfl hb rfl
  have ql := q.tab.len
  have rl := (q.row).len
  have z1 : ((([] : List Int).length : Nat) : Int) = 0 := rfl
  have z0 : decide ((0 : Int) < 0) = false := rfl
  have nz : decide ((0 : Int) = 0) = true := rfl
  obtain ⟨rfl, rfl, vt⟩ := v
  (first | refine WRun.seq (WRun.region ?_) | refine WRun.seq (WRun.seq (WRun.region ?_)) | refine WRun.region ?_ | refine WRun.seq (WRun.seq (WRun.seq (WRun.region ?_)))); ((repeat (first | refine WOps.a rfl (by simp only [reduceIte, Nat.reduceEqDiff, Nat.reduceAdd, B2, g0, l0] <;> rfl) ?_ | refine WOps.b rfl rfl rfl (by simp only [reduceIte, Nat.reduceEqDiff, Nat.reduceAdd, B2, g0, l0] <;> rfl) ?_)); refine WOps.nil ?_)
  (first | refine WRun.seq (WRun.region ?_) | refine WRun.seq (WRun.seq (WRun.region ?_)) | refine WRun.region ?_ | refine WRun.seq (WRun.seq (WRun.seq (WRun.region ?_)))); ((repeat (first | refine WOps.a rfl (by simp only [reduceIte, Nat.reduceEqDiff, Nat.reduceAdd, B2, g0, l0, l1, l2', l3, ql, rl, z1, z0, nz] <;> rfl) ?_ | refine WOps.b rfl rfl rfl (by simp only [reduceIte, Nat.reduceEqDiff, Nat.reduceAdd, B2, g0, l0, l1, l2', l3, ql, rl, z1, z0, nz] <;> rfl) ?_)); refine WOps.nil ?_)
  (first | refine WRun.condF (by simp only [reduceIte, Nat.reduceEqDiff, Nat.reduceAdd, B3, g0] <;> rfl) ?_ | refine WRun.seq (WRun.condF (by simp only [reduceIte, Nat.reduceEqDiff, Nat.reduceAdd, B3, g0] <;> rfl) ?_))
  refine WRun.skip ?_
  (first | refine WRun.seq (WRun.region ?_) | refine WRun.seq (WRun.seq (WRun.region ?_)) | refine WRun.region ?_ | refine WRun.seq (WRun.seq (WRun.seq (WRun.region ?_)))); ((repeat (first | refine WOps.a rfl (by simp only [reduceIte, Nat.reduceEqDiff, Nat.reduceAdd, B2, g0, l0] <;> rfl) ?_ | refine WOps.b rfl rfl rfl (by simp only [reduceIte, Nat.reduceEqDiff, Nat.reduceAdd, B2, g0, l0] <;> rfl) ?_)); refine WOps.nil ?_)
  refine (show WRun Tryz.ctx S 7 Tryz.f7.ntmps none _ _ _ _ _ from ?_)
  refine WRun.block ?_
  (first | refine WRun.seq (WRun.region ?_) | refine WRun.seq (WRun.seq (WRun.region ?_)) | refine WRun.region ?_ | refine WRun.seq (WRun.seq (WRun.seq (WRun.region ?_)))); ((repeat (first | refine WOps.a rfl (by simp only [reduceIte, Nat.reduceEqDiff, Nat.reduceAdd, B3, g0] <;> rfl) ?_ | refine WOps.b rfl rfl rfl (by simp only [reduceIte, Nat.reduceEqDiff, Nat.reduceAdd, B3, g0] <;> rfl) ?_)); refine WOps.nil ?_)
  (first | refine WRun.condF (by simp only [reduceIte, Nat.reduceEqDiff, Nat.reduceAdd, B3, g0] <;> rfl) ?_ | refine WRun.seq (WRun.condF (by simp only [reduceIte, Nat.reduceEqDiff, Nat.reduceAdd, B3, g0] <;> rfl) ?_))
  (first | refine WRun.seq (WRun.region ?_) | refine WRun.seq (WRun.seq (WRun.region ?_)) | refine WRun.region ?_ | refine WRun.seq (WRun.seq (WRun.seq (WRun.region ?_)))); ((repeat (first | refine WOps.a rfl (by simp only [reduceIte, Nat.reduceEqDiff, Nat.reduceAdd, B3, g0] <;> rfl) ?_ | refine WOps.b rfl rfl rfl (by simp only [reduceIte, Nat.reduceEqDiff, Nat.reduceAdd, B3, g0] <;> rfl) ?_)); refine WOps.nil ?_)
  (first | refine WRun.condT (by simp only [reduceIte, Nat.reduceEqDiff, Nat.reduceAdd, B3, g0] <;> rfl) ?_ | refine WRun.seq (WRun.condT (by simp only [reduceIte, Nat.reduceEqDiff, Nat.reduceAdd, B3, g0] <;> rfl) ?_))
  refine WRun.seq (WRun.region ?_)
  iterate 2 (first | refine WOps.a rfl (by simp only [reduceIte, Nat.reduceEqDiff, Nat.reduceAdd, B2, g0, l2] <;> rfl) ?_ | refine WOps.vG ((guard_bool rfl rfl (by simp only [reduceIte, Nat.reduceEqDiff, Nat.reduceAdd, B2, g0, l2] <;> rfl)).trans rfl) (by simp only [reduceIte, Nat.reduceEqDiff, Nat.reduceAdd, B2, g0, l2] <;> rfl) rfl ?_ | refine WOps.nG (by first | exact (guard_bool rfl rfl (by simp only [reduceIte, Nat.reduceEqDiff, Nat.reduceAdd, B2, g0, l2] <;> rfl)).trans rfl | exact guard_not rfl rfl (by simp only [reduceIte, Nat.reduceEqDiff, Nat.reduceAdd, B2, g0, l2] <;> rfl)) rfl ?_)
  refine WOps.cN (op_call1 (v := .agg [tv]) (by simp only [reduceIte, Nat.reduceEqDiff, Nat.reduceAdd, B3, g0] <;> rfl) Tryz.fn19 Tryz.ex19) (Tryz.c19 G.s19 G.s41 G.s42 G.s43 hO.lowN (q.tab.mono hO.ext) (by have := q.tl; omega) (bb := false) (by simp [vt])) rfl ?_
  ((repeat (first | refine WOps.a rfl (by simp only [reduceIte, Nat.reduceEqDiff, Nat.reduceAdd, B3, g0] <;> rfl) ?_ | refine WOps.b rfl rfl rfl (by simp only [reduceIte, Nat.reduceEqDiff, Nat.reduceAdd, B3, g0] <;> rfl) ?_)); refine WOps.nil ?_)
  exact WRun.ret ⟨trivial, rfl, hO.log, (by simp only [reduceIte, Nat.reduceEqDiff, Nat.reduceAdd, B3, g0] <;> rfl)⟩
theorem Tryz.c7_5f {S : Summ} (hS7 : S.get 7 = none) {h : AH} (low : ∀ b x, h.t.get b = some x → b < h.next) {m : Int} {tv cv : AV} {t : List (List Int)} {R : Nat → AV} {l : List Int} (q : PrW h m tv cv t R l) (v : t = [] ∧ ¬(1 ≤ m ∧ m ≤ 5 ∧ isTypeB m m l = true)) :
    RunCall Tryz.ctx S 7 [.agg [.int .i64 5, .int .i64 m, tv, cv]] h ⟨.bool false, h⟩ := by
  refine WRun.calls1 (r := 2) hS7 Tryz.fn7 rfl rfl rfl rfl ?_
  have hO := (Mine.start low).add (.cells [.int .i64 5, .int .i64 m, tv, cv] 0)
  have hb : ((⟨h.t, h.next, h.next, []⟩ : AH).add (.cells [.int .i64 5, .int .i64 m, tv, cv] 0)).t.get h.next = some (.cells [.int .i64 5, .int .i64 m, tv, cv] 0) := get_add_self
  have g0 : (argsT [.agg [.int .i64 5, .int .i64 m, tv, cv]] 0 .leaf).get 0 = some (.agg [.int .i64 5, .int .i64 m, tv, cv]) := rfl
  generalize argsT [.agg [.int .i64 5, .int .i64 m, tv, cv]] 0 .leaf = T at g0
  (first | refine WRun.seq (WRun.region ?_) | refine WRun.seq (WRun.seq (WRun.region ?_)) | refine WRun.region ?_ | refine WRun.seq (WRun.seq (WRun.seq (WRun.region ?_)))); ((repeat (first | refine WOps.a rfl (by simp only [reduceIte, Nat.reduceEqDiff, Nat.reduceAdd, B3, g0] <;> rfl) ?_ | refine WOps.b rfl rfl rfl (by simp only [reduceIte, Nat.reduceEqDiff, Nat.reduceAdd, B3, g0] <;> rfl) ?_)); refine WOps.nil ?_)
  generalize ((⟨h.t, h.next, h.next, []⟩ : AH).add (.cells [.int .i64 5, .int .i64 m, tv, cv] 0)) = H at hO hb
  have l0 : evLoad Tryz.y3 (.ptr h.next 0) H = .val (.int .i64 5) H := load_word rfl hb rfl
  have l1 : evLoad Tryz.y3 (.ptr h.next 1) H = .val (.int .i64 m) H := load_word rfl hb rfl
  have l2' : evLoad Tryz.y22 (.ptr h.next 2) H = .val tv H := load_word rfl hb rfl
  have l3 : evLoad Tryz.y25 (.ptr h.next 3) H = .val cv H := load_word rfl hb rfl
  have ql := q.tab.len
  have rl := (q.row).len
  have z2 : ((([] : List (List Int)).length : Nat) : Int) = 0 := rfl
  have z0 : decide ((0 : Int) < 0) = false := rfl
  have nz : decide ((0 : Int) = 0) = true := rfl
  obtain ⟨rfl, vt⟩ := v
  (first | refine WRun.seq (WRun.region ?_) | refine WRun.seq (WRun.seq (WRun.region ?_)) | refine WRun.region ?_ | refine WRun.seq (WRun.seq (WRun.seq (WRun.region ?_)))); ((repeat (first | refine WOps.a rfl (by simp only [reduceIte, Nat.reduceEqDiff, Nat.reduceAdd, B2, g0, l0] <;> rfl) ?_ | refine WOps.b rfl rfl rfl (by simp only [reduceIte, Nat.reduceEqDiff, Nat.reduceAdd, B2, g0, l0] <;> rfl) ?_)); refine WOps.nil ?_)
  (first | refine WRun.seq (WRun.region ?_) | refine WRun.seq (WRun.seq (WRun.region ?_)) | refine WRun.region ?_ | refine WRun.seq (WRun.seq (WRun.seq (WRun.region ?_)))); ((repeat (first | refine WOps.a rfl (by simp only [reduceIte, Nat.reduceEqDiff, Nat.reduceAdd, B2, g0, l0, l1, l2', l3, ql, rl, z2, z0, nz] <;> rfl) ?_ | refine WOps.b rfl rfl rfl (by simp only [reduceIte, Nat.reduceEqDiff, Nat.reduceAdd, B2, g0, l0, l1, l2', l3, ql, rl, z2, z0, nz] <;> rfl) ?_)); refine WOps.nil ?_)
  (first | refine WRun.condF (by simp only [reduceIte, Nat.reduceEqDiff, Nat.reduceAdd, B3, g0] <;> rfl) ?_ | refine WRun.seq (WRun.condF (by simp only [reduceIte, Nat.reduceEqDiff, Nat.reduceAdd, B3, g0] <;> rfl) ?_))
  refine WRun.skip ?_
  (first | refine WRun.seq (WRun.region ?_) | refine WRun.seq (WRun.seq (WRun.region ?_)) | refine WRun.region ?_ | refine WRun.seq (WRun.seq (WRun.seq (WRun.region ?_)))); ((repeat (first | refine WOps.a rfl (by simp only [reduceIte, Nat.reduceEqDiff, Nat.reduceAdd, B2, g0, l0] <;> rfl) ?_ | refine WOps.b rfl rfl rfl (by simp only [reduceIte, Nat.reduceEqDiff, Nat.reduceAdd, B2, g0, l0] <;> rfl) ?_)); refine WOps.nil ?_)
  refine (show WRun Tryz.ctx S 7 Tryz.f7.ntmps none _ _ _ _ _ from ?_)
  refine WRun.block ?_
  (first | refine WRun.seq (WRun.region ?_) | refine WRun.seq (WRun.seq (WRun.region ?_)) | refine WRun.region ?_ | refine WRun.seq (WRun.seq (WRun.seq (WRun.region ?_)))); ((repeat (first | refine WOps.a rfl (by simp only [reduceIte, Nat.reduceEqDiff, Nat.reduceAdd, B3, g0] <;> rfl) ?_ | refine WOps.b rfl rfl rfl (by simp only [reduceIte, Nat.reduceEqDiff, Nat.reduceAdd, B3, g0] <;> rfl) ?_)); refine WOps.nil ?_)
  (first | refine WRun.condF (by simp only [reduceIte, Nat.reduceEqDiff, Nat.reduceAdd, B3, g0] <;> rfl) ?_ | refine WRun.seq (WRun.condF (by simp only [reduceIte, Nat.reduceEqDiff, Nat.reduceAdd, B3, g0] <;> rfl) ?_))
  (first | refine WRun.seq (WRun.region ?_) | refine WRun.seq (WRun.seq (WRun.region ?_)) | refine WRun.region ?_ | refine WRun.seq (WRun.seq (WRun.seq (WRun.region ?_)))); ((repeat (first | refine WOps.a rfl (by simp only [reduceIte, Nat.reduceEqDiff, Nat.reduceAdd, B3, g0] <;> rfl) ?_ | refine WOps.b rfl rfl rfl (by simp only [reduceIte, Nat.reduceEqDiff, Nat.reduceAdd, B3, g0] <;> rfl) ?_)); refine WOps.nil ?_)
  (first | refine WRun.condF (by simp only [reduceIte, Nat.reduceEqDiff, Nat.reduceAdd, B3, g0] <;> rfl) ?_ | refine WRun.seq (WRun.condF (by simp only [reduceIte, Nat.reduceEqDiff, Nat.reduceAdd, B3, g0] <;> rfl) ?_))
  (first | refine WRun.seq (WRun.region ?_) | refine WRun.seq (WRun.seq (WRun.region ?_)) | refine WRun.region ?_ | refine WRun.seq (WRun.seq (WRun.seq (WRun.region ?_)))); ((repeat (first | refine WOps.a rfl (by simp only [reduceIte, Nat.reduceEqDiff, Nat.reduceAdd, B3, g0] <;> rfl) ?_ | refine WOps.b rfl rfl rfl (by simp only [reduceIte, Nat.reduceEqDiff, Nat.reduceAdd, B3, g0] <;> rfl) ?_)); refine WOps.nil ?_)
  (first | refine WRun.condT (by simp only [reduceIte, Nat.reduceEqDiff, Nat.reduceAdd, B3, g0] <;> rfl) ?_ | refine WRun.seq (WRun.condT (by simp only [reduceIte, Nat.reduceEqDiff, Nat.reduceAdd, B3, g0] <;> rfl) ?_))
  (first | refine WRun.seq (WRun.region ?_) | refine WRun.seq (WRun.seq (WRun.region ?_)) | refine WRun.region ?_ | refine WRun.seq (WRun.seq (WRun.seq (WRun.region ?_)))); ((repeat (first | refine WOps.a rfl (by simp only [reduceIte, Nat.reduceEqDiff, Nat.reduceAdd, B3, g0] <;> rfl) ?_ | refine WOps.b rfl rfl rfl (by simp only [reduceIte, Nat.reduceEqDiff, Nat.reduceAdd, B3, g0] <;> rfl) ?_)); refine WOps.nil ?_)
  (first | refine WRun.seq (WRun.region ?_) | refine WRun.seq (WRun.seq (WRun.region ?_)) | refine WRun.region ?_ | refine WRun.seq (WRun.seq (WRun.seq (WRun.region ?_)))); ((repeat (first | refine WOps.a rfl (by simp only [reduceIte, Nat.reduceEqDiff, Nat.reduceAdd, B2, g0, l3, rl] <;> rfl) ?_ | refine WOps.b rfl rfl rfl (by simp only [reduceIte, Nat.reduceEqDiff, Nat.reduceAdd, B2, g0, l3, rl] <;> rfl) ?_)); refine WOps.nil ?_)
  refine (show WRun Tryz.ctx S 7 Tryz.f7.ntmps none _ _ _ _ _ from ?_)
  refine WRun.block ?_
  refine WRun.loop (I := fun mm T h' => ∃ x : Nat, mm + x = l.length ∧ H = h' ∧ (∀ c ∈ l.take x, 1 ≤ c ∧ c ≤ 10) ∧ (∀ (i : Nat) (c d : Int), i + 1 < x → l[i]? = some c → l[i + 1]? = some d → d ≤ c) ∧ 0 ≤ (l.take x).sum ∧ (l.take x).sum ≤ 10 * (x : Int) ∧
    T.get 1 = some (.ptr h.next 0) ∧ T.get 2 = some (.bool false) ∧ T.get 4 = some (.int .i64 (l.take x).sum) ∧ T.get 75 = some cv ∧ T.get 76 = some (.int .i64 l.length) ∧ T.get 77 = some (.int .i64 x)) (m := l.length) ?_
    ⟨0, by omega, rfl, by simp, by omega, by simp, by simp, (by simp only [reduceIte, Nat.reduceEqDiff, Nat.reduceAdd, B3, g0] <;> rfl), (by simp only [reduceIte, Nat.reduceEqDiff, Nat.reduceAdd, B3, g0] <;> rfl), (by simp only [reduceIte, Nat.reduceEqDiff, Nat.reduceAdd, B3, g0] <;> rfl), (by simp only [reduceIte, Nat.reduceEqDiff, Nat.reduceAdd, B3, g0] <;> rfl), (by simp only [reduceIte, Nat.reduceEqDiff, Nat.reduceAdd, B3, g0] <;> rfl), (by simp only [reduceIte, Nat.reduceEqDiff, Nat.reduceAdd, B3, g0] <;> rfl)⟩
  clear g0
  rintro mm T _ ⟨x, hm, rfl, i1, i2, i3, i4, t1, t2, t4, t75, t76, t77⟩
  have hll := q.ll
  by_cases hx : x < l.length
  · have hlt : ((x : Int) < (l.length : Int)) = True := by simp; exact hx
    have ad := add1 x (by omega)
    obtain ⟨c, hc⟩ : ∃ c, l[x]? = some c := ⟨_, List.getElem?_eq_getElem hx⟩
    have ss := sum_take_succ hc
    have rT := q.row
    obtain ⟨bb, o, a1, ld⟩ := rT.ent x c hc H hO.ext
    (first | refine WRun.seq (WRun.region ?_) | refine WRun.seq (WRun.seq (WRun.region ?_)) | refine WRun.region ?_ | refine WRun.seq (WRun.seq (WRun.seq (WRun.region ?_)))); ((repeat (first | refine WOps.a rfl (by simp only [reduceIte, Nat.reduceEqDiff, Nat.reduceAdd, B3, t76, t77, hlt] <;> rfl) ?_ | refine WOps.b rfl rfl rfl (by simp only [reduceIte, Nat.reduceEqDiff, Nat.reduceAdd, B3, t76, t77, hlt] <;> rfl) ?_)); refine WOps.nil ?_)
    (first | refine WRun.condT (by simp only [reduceIte, Nat.reduceEqDiff, Nat.reduceAdd, B3, hlt] <;> rfl) ?_ | refine WRun.seq (WRun.condT (by simp only [reduceIte, Nat.reduceEqDiff, Nat.reduceAdd, B3, hlt] <;> rfl) ?_))
    refine WRun.skip ?_
    refine WRun.seq (WRun.block ?_)
    (first | refine WRun.seq (WRun.region ?_) | refine WRun.seq (WRun.seq (WRun.region ?_)) | refine WRun.region ?_ | refine WRun.seq (WRun.seq (WRun.seq (WRun.region ?_)))); ((repeat (first | refine WOps.a rfl (by simp only [reduceIte, Nat.reduceEqDiff, Nat.reduceAdd, B2, t75, t77, a1, ld] <;> rfl) ?_ | refine WOps.b rfl rfl rfl (by simp only [reduceIte, Nat.reduceEqDiff, Nat.reduceAdd, B2, t75, t77, a1, ld] <;> rfl) ?_)); refine WOps.nil ?_)
    by_cases b1 : c < 1
    · have j1 : decide (c < 1) = true := by simpa using b1
      (first | refine WRun.seq (WRun.region ?_) | refine WRun.seq (WRun.seq (WRun.region ?_)) | refine WRun.region ?_ | refine WRun.seq (WRun.seq (WRun.seq (WRun.region ?_)))); ((repeat (first | refine WOps.a rfl (by simp only [reduceIte, Nat.reduceEqDiff, Nat.reduceAdd, B3, t77, j1] <;> rfl) ?_ | refine WOps.b rfl rfl rfl (by simp only [reduceIte, Nat.reduceEqDiff, Nat.reduceAdd, B3, t77, j1] <;> rfl) ?_)); refine WOps.nil ?_)
      (first | refine WRun.condT (by simp only [reduceIte, Nat.reduceEqDiff, Nat.reduceAdd, B3, t77] <;> rfl) ?_ | refine WRun.seq (WRun.condT (by simp only [reduceIte, Nat.reduceEqDiff, Nat.reduceAdd, B3, t77] <;> rfl) ?_))
      (first | refine WRun.seq (WRun.region ?_) | refine WRun.seq (WRun.seq (WRun.region ?_)) | refine WRun.region ?_ | refine WRun.seq (WRun.seq (WRun.seq (WRun.region ?_)))); ((repeat (first | refine WOps.a rfl (by simp only [reduceIte, Nat.reduceEqDiff, Nat.reduceAdd, B3, t77] <;> rfl) ?_ | refine WOps.b rfl rfl rfl (by simp only [reduceIte, Nat.reduceEqDiff, Nat.reduceAdd, B3, t77] <;> rfl) ?_)); refine WOps.nil ?_)
      exact WRun.ret ⟨trivial, rfl, hO.log, (by simp only [reduceIte, Nat.reduceEqDiff, Nat.reduceAdd, B3, t1] <;> rfl)⟩
    have j1 : decide (c < 1) = false := by simpa using b1
    by_cases b2 : 10 < c
    · have j2 : decide ((10 : Int) < c) = true := by simpa using b2
      (first | refine WRun.seq (WRun.region ?_) | refine WRun.seq (WRun.seq (WRun.region ?_)) | refine WRun.region ?_ | refine WRun.seq (WRun.seq (WRun.seq (WRun.region ?_)))); ((repeat (first | refine WOps.a rfl (by simp only [reduceIte, Nat.reduceEqDiff, Nat.reduceAdd, B3, t77, j1, j2] <;> rfl) ?_ | refine WOps.b rfl rfl rfl (by simp only [reduceIte, Nat.reduceEqDiff, Nat.reduceAdd, B3, t77, j1, j2] <;> rfl) ?_)); refine WOps.nil ?_)
      (first | refine WRun.condT (by simp only [reduceIte, Nat.reduceEqDiff, Nat.reduceAdd, B3, t77] <;> rfl) ?_ | refine WRun.seq (WRun.condT (by simp only [reduceIte, Nat.reduceEqDiff, Nat.reduceAdd, B3, t77] <;> rfl) ?_))
      (first | refine WRun.seq (WRun.region ?_) | refine WRun.seq (WRun.seq (WRun.region ?_)) | refine WRun.region ?_ | refine WRun.seq (WRun.seq (WRun.seq (WRun.region ?_)))); ((repeat (first | refine WOps.a rfl (by simp only [reduceIte, Nat.reduceEqDiff, Nat.reduceAdd, B3, t77] <;> rfl) ?_ | refine WOps.b rfl rfl rfl (by simp only [reduceIte, Nat.reduceEqDiff, Nat.reduceAdd, B3, t77] <;> rfl) ?_)); refine WOps.nil ?_)
      exact WRun.ret ⟨trivial, rfl, hO.log, (by simp only [reduceIte, Nat.reduceEqDiff, Nat.reduceAdd, B3, t1] <;> rfl)⟩
    have j2 : decide ((10 : Int) < c) = false := by simpa using b2
    have sa : ∀ (ty : TypeId) (b : Bool), binV Tryz.ctx.ty .add ty b (.int .i64 (l.take x).sum) (.int .i64 c) = some (.int .i64 (l.take (x + 1)).sum) := fun ty b => by rw [bin_add (by omega) (by omega), ss]
    have i1' : ∀ d ∈ l.take (x + 1), 1 ≤ d ∧ d ≤ 10 := fun d hd => by
      rw [take_snoc hc, List.mem_append, List.mem_singleton] at hd
      rcases hd with hd | rfl
      · exact i1 d hd
      · omega
    by_cases hx0 : x = 0
    · subst hx0
      have j3 : decide ((0 : Int) < ((0 : Nat) : Int)) = false := rfl
      (first | refine WRun.seq (WRun.region ?_) | refine WRun.seq (WRun.seq (WRun.region ?_)) | refine WRun.region ?_ | refine WRun.seq (WRun.seq (WRun.seq (WRun.region ?_)))); ((repeat (first | refine WOps.a rfl (by simp only [reduceIte, Nat.reduceEqDiff, Nat.reduceAdd, B3, t77, j1, j2, j3] <;> rfl) ?_ | refine WOps.b rfl rfl rfl (by simp only [reduceIte, Nat.reduceEqDiff, Nat.reduceAdd, B3, t77, j1, j2, j3] <;> rfl) ?_)); refine WOps.nil ?_)
      (first | refine WRun.condF (by simp only [reduceIte, Nat.reduceEqDiff, Nat.reduceAdd, B3, t77] <;> rfl) ?_ | refine WRun.seq (WRun.condF (by simp only [reduceIte, Nat.reduceEqDiff, Nat.reduceAdd, B3, t77] <;> rfl) ?_))
      refine WRun.skip ?_
      (first | refine WRun.seq (WRun.region ?_) | refine WRun.seq (WRun.seq (WRun.region ?_)) | refine WRun.region ?_ | refine WRun.seq (WRun.seq (WRun.seq (WRun.region ?_)))); ((repeat (first | refine WOps.a rfl (by simp only [reduceIte, Nat.reduceEqDiff, Nat.reduceAdd, B3, t4, sa] <;> rfl) ?_ | refine WOps.b rfl rfl rfl (by simp only [reduceIte, Nat.reduceEqDiff, Nat.reduceAdd, B3, t4, sa] <;> rfl) ?_)); refine WOps.nil ?_)
      (first | refine WRun.seq (WRun.region ?_) | refine WRun.seq (WRun.seq (WRun.region ?_)) | refine WRun.region ?_ | refine WRun.seq (WRun.seq (WRun.seq (WRun.region ?_)))); ((repeat (first | refine WOps.a rfl (by simp only [reduceIte, Nat.reduceEqDiff, Nat.reduceAdd, B3, t77, ad] <;> rfl) ?_ | refine WOps.b rfl rfl rfl (by simp only [reduceIte, Nat.reduceEqDiff, Nat.reduceAdd, B3, t77, ad] <;> rfl) ?_)); refine WOps.nil ?_)
      exact ⟨rfl, mm - 1, by omega, 1, by omega, rfl, i1', by omega, by rw [ss]; omega, by rw [ss]; omega, (by simp only [reduceIte, Nat.reduceEqDiff, Nat.reduceAdd, B3, t1] <;> rfl), (by simp only [reduceIte, Nat.reduceEqDiff, Nat.reduceAdd, B3, t2] <;> rfl), (by simp only [reduceIte, Nat.reduceEqDiff, Nat.reduceAdd, B3, t4] <;> rfl), (by simp only [reduceIte, Nat.reduceEqDiff, Nat.reduceAdd, B3, t75] <;> rfl), (by simp only [reduceIte, Nat.reduceEqDiff, Nat.reduceAdd, B3, t76] <;> rfl), (by simp only [reduceIte, Nat.reduceEqDiff, Nat.reduceAdd, B3, t77] <;> rfl)⟩
    · have j3 : decide ((0 : Int) < (x : Int)) = true := by simp; omega
      obtain ⟨y, hy⟩ : ∃ y : Nat, x = y + 1 := ⟨x - 1, by omega⟩
      obtain ⟨d, hd⟩ : ∃ d, l[y]? = some d := ⟨_, List.getElem?_eq_getElem (by omega)⟩
      obtain ⟨b2', o2, a2, ld2⟩ := rT.ent y d hd H hO.ext
      have su : ∀ (ty : TypeId) (b : Bool), binV Tryz.ctx.ty .sub ty b (.int .i64 (x : Int)) (.int .i64 1) = some (.int .i64 (y : Int)) := fun ty b => by rw [bin_sub (by omega) (by omega)]; congr 2; omega
      by_cases b4 : d < c
      · have j4 : decide (d < c) = true := by simpa using b4
        (first | refine WRun.seq (WRun.region ?_) | refine WRun.seq (WRun.seq (WRun.region ?_)) | refine WRun.region ?_ | refine WRun.seq (WRun.seq (WRun.seq (WRun.region ?_)))); ((repeat (first | refine WOps.a rfl (by simp only [reduceIte, Nat.reduceEqDiff, Nat.reduceAdd, B2, t1, t77, j1, j2, j3, l3, su, a2, ld2, j4] <;> rfl) ?_ | refine WOps.b rfl rfl rfl (by simp only [reduceIte, Nat.reduceEqDiff, Nat.reduceAdd, B2, t1, t77, j1, j2, j3, l3, su, a2, ld2, j4] <;> rfl) ?_)); refine WOps.nil ?_)
        (first | refine WRun.condT (by simp only [reduceIte, Nat.reduceEqDiff, Nat.reduceAdd, B3, t77] <;> rfl) ?_ | refine WRun.seq (WRun.condT (by simp only [reduceIte, Nat.reduceEqDiff, Nat.reduceAdd, B3, t77] <;> rfl) ?_))
        (first | refine WRun.seq (WRun.region ?_) | refine WRun.seq (WRun.seq (WRun.region ?_)) | refine WRun.region ?_ | refine WRun.seq (WRun.seq (WRun.seq (WRun.region ?_)))); ((repeat (first | refine WOps.a rfl (by simp only [reduceIte, Nat.reduceEqDiff, Nat.reduceAdd, B3, t77] <;> rfl) ?_ | refine WOps.b rfl rfl rfl (by simp only [reduceIte, Nat.reduceEqDiff, Nat.reduceAdd, B3, t77] <;> rfl) ?_)); refine WOps.nil ?_)
        exact WRun.ret ⟨trivial, rfl, hO.log, (by simp only [reduceIte, Nat.reduceEqDiff, Nat.reduceAdd, B3, t1] <;> rfl)⟩
      · have j4 : decide (d < c) = false := by simpa using b4
        (first | refine WRun.seq (WRun.region ?_) | refine WRun.seq (WRun.seq (WRun.region ?_)) | refine WRun.region ?_ | refine WRun.seq (WRun.seq (WRun.seq (WRun.region ?_)))); ((repeat (first | refine WOps.a rfl (by simp only [reduceIte, Nat.reduceEqDiff, Nat.reduceAdd, B2, t1, t77, j1, j2, j3, l3, su, a2, ld2, j4] <;> rfl) ?_ | refine WOps.b rfl rfl rfl (by simp only [reduceIte, Nat.reduceEqDiff, Nat.reduceAdd, B2, t1, t77, j1, j2, j3, l3, su, a2, ld2, j4] <;> rfl) ?_)); refine WOps.nil ?_)
        (first | refine WRun.condF (by simp only [reduceIte, Nat.reduceEqDiff, Nat.reduceAdd, B3, t77] <;> rfl) ?_ | refine WRun.seq (WRun.condF (by simp only [reduceIte, Nat.reduceEqDiff, Nat.reduceAdd, B3, t77] <;> rfl) ?_))
        refine WRun.skip ?_
        (first | refine WRun.seq (WRun.region ?_) | refine WRun.seq (WRun.seq (WRun.region ?_)) | refine WRun.region ?_ | refine WRun.seq (WRun.seq (WRun.seq (WRun.region ?_)))); ((repeat (first | refine WOps.a rfl (by simp only [reduceIte, Nat.reduceEqDiff, Nat.reduceAdd, B3, t4, sa] <;> rfl) ?_ | refine WOps.b rfl rfl rfl (by simp only [reduceIte, Nat.reduceEqDiff, Nat.reduceAdd, B3, t4, sa] <;> rfl) ?_)); refine WOps.nil ?_)
        (first | refine WRun.seq (WRun.region ?_) | refine WRun.seq (WRun.seq (WRun.region ?_)) | refine WRun.region ?_ | refine WRun.seq (WRun.seq (WRun.seq (WRun.region ?_)))); ((repeat (first | refine WOps.a rfl (by simp only [reduceIte, Nat.reduceEqDiff, Nat.reduceAdd, B3, t77, ad] <;> rfl) ?_ | refine WOps.b rfl rfl rfl (by simp only [reduceIte, Nat.reduceEqDiff, Nat.reduceAdd, B3, t77, ad] <;> rfl) ?_)); refine WOps.nil ?_)
        refine ⟨rfl, mm - 1, by omega, x + 1, by omega, rfl, i1', fun i a b hi ha hb => ?_, by rw [ss]; omega, by rw [ss]; omega, (by simp only [reduceIte, Nat.reduceEqDiff, Nat.reduceAdd, B3, t1] <;> rfl), (by simp only [reduceIte, Nat.reduceEqDiff, Nat.reduceAdd, B3, t2] <;> rfl), (by simp only [reduceIte, Nat.reduceEqDiff, Nat.reduceAdd, B3, t4] <;> rfl), (by simp only [reduceIte, Nat.reduceEqDiff, Nat.reduceAdd, B3, t75] <;> rfl), (by simp only [reduceIte, Nat.reduceEqDiff, Nat.reduceAdd, B3, t76] <;> rfl), (by simp only [reduceIte, Nat.reduceEqDiff, Nat.reduceAdd, B3, t77] <;> rfl)⟩
        by_cases hi' : i + 1 < x
        · exact i2 i a b hi' ha hb
        · have hiy : i = y := by omega
          rw [hiy, hd] at ha
          rw [show i + 1 = x by omega, hc] at hb
          cases ha; cases hb
          omega
  · have hlt : ((x : Int) < (l.length : Int)) = False := by simp; omega
    have hxl : x = l.length := by omega
    have hs : (l.take x).sum = l.sum := by rw [List.take_of_length_le (by omega)]
    rw [hs] at t4
    rw [List.take_of_length_le (by omega)] at i1
    (first | refine WRun.seq (WRun.region ?_) | refine WRun.seq (WRun.seq (WRun.region ?_)) | refine WRun.region ?_ | refine WRun.seq (WRun.seq (WRun.seq (WRun.region ?_)))); ((repeat (first | refine WOps.a rfl (by simp only [reduceIte, Nat.reduceEqDiff, Nat.reduceAdd, B3, t76, t77, hlt] <;> rfl) ?_ | refine WOps.b rfl rfl rfl (by simp only [reduceIte, Nat.reduceEqDiff, Nat.reduceAdd, B3, t76, t77, hlt] <;> rfl) ?_)); refine WOps.nil ?_)
    (first | refine WRun.condF (by simp only [reduceIte, Nat.reduceEqDiff, Nat.reduceAdd, B3, hlt] <;> rfl) ?_ | refine WRun.seq (WRun.condF (by simp only [reduceIte, Nat.reduceEqDiff, Nat.reduceAdd, B3, hlt] <;> rfl) ?_))
    refine WRun.exit ?_
    by_cases m1 : 1 ≤ m
    · have e1 : decide (1 ≤ m) = true := by simpa using m1
      by_cases m5 : m ≤ 5
      · have e2 : decide (m ≤ 5) = true := by simpa using m5
        have e3 : decide (l.sum = m) = false := by
          rw [decide_eq_false_iff_not]
          intro hsm
          refine vt ⟨m1, m5, isTypeB_mk (fun c hc => (i1 c hc).1) (fun i c d hc hd => i2 i c d (by rw [hxl]; exact (List.getElem?_eq_some_iff.1 hd).1) hc hd) hsm fun c hc => ?_⟩
          have h1 := sum_take_bounds (fun i c hc => (i1 c (List.mem_of_getElem? hc)).1) 1
          have h2 := sum_take_succ (x := 0) hc
          simp at h2
          omega
        (first | refine WRun.seq (WRun.region ?_) | refine WRun.seq (WRun.seq (WRun.region ?_)) | refine WRun.region ?_ | refine WRun.seq (WRun.seq (WRun.seq (WRun.region ?_)))); ((repeat (first | refine WOps.a rfl (by simp only [reduceIte, Nat.reduceEqDiff, Nat.reduceAdd, B2, t1, t4, l1, e1, e2, e3] <;> rfl) ?_ | refine WOps.b rfl rfl rfl (by simp only [reduceIte, Nat.reduceEqDiff, Nat.reduceAdd, B2, t1, t4, l1, e1, e2, e3] <;> rfl) ?_)); refine WOps.nil ?_)
        exact WRun.ret ⟨trivial, rfl, hO.log, (by simp only [reduceIte, Nat.reduceEqDiff, Nat.reduceAdd, B3, t1] <;> rfl)⟩
      · have e2 : decide (m ≤ 5) = false := by simpa using m5
        (first | refine WRun.seq (WRun.region ?_) | refine WRun.seq (WRun.seq (WRun.region ?_)) | refine WRun.region ?_ | refine WRun.seq (WRun.seq (WRun.seq (WRun.region ?_)))); ((repeat (first | refine WOps.a rfl (by simp only [reduceIte, Nat.reduceEqDiff, Nat.reduceAdd, B2, t1, t4, l1, e1, e2] <;> rfl) ?_ | refine WOps.b rfl rfl rfl (by simp only [reduceIte, Nat.reduceEqDiff, Nat.reduceAdd, B2, t1, t4, l1, e1, e2] <;> rfl) ?_)); refine WOps.nil ?_)
        exact WRun.ret ⟨trivial, rfl, hO.log, (by simp only [reduceIte, Nat.reduceEqDiff, Nat.reduceAdd, B3, t1] <;> rfl)⟩
    · have e1 : decide (1 ≤ m) = false := by simpa using m1
      (first | refine WRun.seq (WRun.region ?_) | refine WRun.seq (WRun.seq (WRun.region ?_)) | refine WRun.region ?_ | refine WRun.seq (WRun.seq (WRun.seq (WRun.region ?_)))); ((repeat (first | refine WOps.a rfl (by simp only [reduceIte, Nat.reduceEqDiff, Nat.reduceAdd, B2, t1, t4, l1, e1] <;> rfl) ?_ | refine WOps.b rfl rfl rfl (by simp only [reduceIte, Nat.reduceEqDiff, Nat.reduceAdd, B2, t1, t4, l1, e1] <;> rfl) ?_)); refine WOps.nil ?_)
      exact WRun.ret ⟨trivial, rfl, hO.log, (by simp only [reduceIte, Nat.reduceEqDiff, Nat.reduceAdd, B3, t1] <;> rfl)⟩
theorem Tryz.c7f {S : Summ} (hS7 : S.get 7 = none) (G : Gets S) {h : AH} (low : ∀ b x, h.t.get b = some x → b < h.next) {k m : Int} {tv cv : AV} {t : List (List Int)} {R : Nat → AV} {l : List Int} (q : PrW h m tv cv t R l) (v : ¬VP k m t l) :
    RunCall Tryz.ctx S 7 [.agg [.int .i64 k, .int .i64 m, tv, cv]] h ⟨.bool false, h⟩ := by
  by_cases hh : HeadBad k m t l
  · exact Tryz.c7_h hS7 low q hh
  unfold HeadBad at hh
  have ht : k ≠ 4 → t = [] := fun h4 => Classical.byContradiction fun z => hh (.inr (.inr (.inr (.inr ⟨h4, z⟩))))
  have hl : k ≠ 5 → l = [] := fun h5 => Classical.byContradiction fun z => hh (.inr (.inr (.inr (.inl ⟨h5, z⟩))))
  have hm : k ≠ 3 → k ≠ 5 → m = 0 := fun h3 h5 => Classical.byContradiction fun z => hh (.inr (.inr (.inl ⟨h3, h5, z⟩)))
  unfold VP at v
  by_cases h3 : k = 3
  · subst h3
    rw [if_pos rfl] at v
    exact Tryz.c7_3f hS7 low q ⟨ht (by decide), hl (by decide), fun z => v ⟨ht (by decide), hl (by decide), z.1, z.2⟩⟩
  rw [if_neg h3] at v
  by_cases h4 : k = 4
  · subst h4
    rw [if_pos rfl] at v
    exact Tryz.c7_4f hS7 G low q ⟨hm (by decide) (by decide), hl (by decide), fun z => v ⟨hm (by decide) (by decide), hl (by decide), z⟩⟩
  rw [if_neg h4] at v
  by_cases h5 : k = 5
  · subst h5
    rw [if_pos rfl] at v
    exact Tryz.c7_5f hS7 low q ⟨ht (by decide), fun z => v ⟨ht (by decide), z⟩⟩
  rw [if_neg h5] at v
  exact absurd ⟨ht h4, hm h3 h5, hl h5, by omega, by omega⟩ v
end Go.Proofs
namespace Go.Proofs
open Go.Ev
set_option maxRecDepth 100000
set_option maxHeartbeats 4000000
/-- slices.Equal of equal rows. -/
theorem Tryz.c24 {S : Summ} (hS : S.get 24 = none) {h : AH} {u v : AV} {l : List Int} (qu : RowT h u l) (qv : RowT h v l) (hl : l.length ≤ 1000000) :
    RunCall Tryz.ctx S 24 [u, v] h ⟨.bool true, h⟩ := by
  refine WRun.calls1 (r := 4) hS Tryz.fn24 rfl rfl rfl rfl ?_
  have lu := qu.len
  have lv := qv.len
  have g0 : (argsT [u, v] 0 .leaf).get 0 = some u := rfl
  have g1 : (argsT [u, v] 0 .leaf).get 1 = some v := rfl
  have ee : decide ((l.length : Int) = (l.length : Int)) = true := by simp
  generalize argsT [u, v] 0 .leaf = T at g0 g1
  (first | refine WRun.seq (WRun.region ?_) | refine WRun.seq (WRun.seq (WRun.region ?_)) | refine WRun.region ?_ | refine WRun.seq (WRun.seq (WRun.seq (WRun.region ?_)))); ((repeat (first | refine WOps.a rfl (by simp only [reduceIte, Nat.reduceEqDiff, Nat.reduceAdd, B3, g0] <;> rfl) ?_ | refine WOps.b rfl rfl rfl (by simp only [reduceIte, Nat.reduceEqDiff, Nat.reduceAdd, B3, g0] <;> rfl) ?_)); refine WOps.nil ?_)
  (first | refine WRun.seq (WRun.region ?_) | refine WRun.seq (WRun.seq (WRun.region ?_)) | refine WRun.region ?_ | refine WRun.seq (WRun.seq (WRun.seq (WRun.region ?_)))); ((repeat (first | refine WOps.a rfl (by simp only [reduceIte, Nat.reduceEqDiff, Nat.reduceAdd, B3, g0, g1, lu, lv, ee] <;> rfl) ?_ | refine WOps.b rfl rfl rfl (by simp only [reduceIte, Nat.reduceEqDiff, Nat.reduceAdd, B3, g0, g1, lu, lv, ee] <;> rfl) ?_)); refine WOps.nil ?_)
  (first | refine WRun.condF (by simp only [reduceIte, Nat.reduceEqDiff, Nat.reduceAdd, B3, g0] <;> rfl) ?_ | refine WRun.seq (WRun.condF (by simp only [reduceIte, Nat.reduceEqDiff, Nat.reduceAdd, B3, g0] <;> rfl) ?_))
  refine WRun.skip ?_
  (first | refine WRun.seq (WRun.region ?_) | refine WRun.seq (WRun.seq (WRun.region ?_)) | refine WRun.region ?_ | refine WRun.seq (WRun.seq (WRun.seq (WRun.region ?_)))); ((repeat (first | refine WOps.a rfl (by simp only [reduceIte, Nat.reduceEqDiff, Nat.reduceAdd, B3, g0, lu] <;> rfl) ?_ | refine WOps.b rfl rfl rfl (by simp only [reduceIte, Nat.reduceEqDiff, Nat.reduceAdd, B3, g0, lu] <;> rfl) ?_)); refine WOps.nil ?_)
  (first | refine WRun.block ?_ | refine WRun.seq (WRun.block ?_) | refine WRun.seq (WRun.seq (WRun.block ?_)))
  refine WRun.loop (I := fun m T h' => ∃ x : Nat, m + x = l.length ∧ h' = ⟨h.t, h.next, h.next, []⟩ ∧ T.get 0 = some u ∧ T.get 1 = some v ∧ T.get 12 = some (.int .i64 l.length) ∧ T.get 13 = some (.int .i64 x)) (m := l.length) ?_
    ⟨0, by omega, rfl, (by simp only [reduceIte, Nat.reduceEqDiff, Nat.reduceAdd, B3, g0] <;> rfl), (by simp only [reduceIte, Nat.reduceEqDiff, Nat.reduceAdd, B3, g1] <;> rfl), (by simp only [reduceIte, Nat.reduceEqDiff, Nat.reduceAdd, B3, g0] <;> rfl), (by simp only [reduceIte, Nat.reduceEqDiff, Nat.reduceAdd, B3, g0] <;> rfl)⟩
  clear g0 g1
  rintro m T _ ⟨x, hm, rfl, t0, t1, t12, t13⟩
  by_cases hx : x < l.length
  · have hlt : ((x : Int) < (l.length : Int)) = True := by simp; exact hx
    have ad := add1 x (by omega)
    obtain ⟨c, hc⟩ : ∃ c, l[x]? = some c := ⟨_, List.getElem?_eq_getElem hx⟩
    obtain ⟨b1, o1, a1, d1⟩ := qu.ent x c hc ⟨h.t, h.next, h.next, []⟩ fun _ _ e => e
    obtain ⟨b2, o2, a2, d2⟩ := qv.ent x c hc ⟨h.t, h.next, h.next, []⟩ fun _ _ e => e
    have ce : decide (c = c) = true := by simp
    (first | refine WRun.seq (WRun.region ?_) | refine WRun.seq (WRun.seq (WRun.region ?_)) | refine WRun.region ?_ | refine WRun.seq (WRun.seq (WRun.seq (WRun.region ?_)))); ((repeat (first | refine WOps.a rfl (by simp only [reduceIte, Nat.reduceEqDiff, Nat.reduceAdd, B3, t12, t13, hlt] <;> rfl) ?_ | refine WOps.b rfl rfl rfl (by simp only [reduceIte, Nat.reduceEqDiff, Nat.reduceAdd, B3, t12, t13, hlt] <;> rfl) ?_)); refine WOps.nil ?_)
    (first | refine WRun.condT (by simp only [reduceIte, Nat.reduceEqDiff, Nat.reduceAdd, B3, hlt] <;> rfl) ?_ | refine WRun.seq (WRun.condT (by simp only [reduceIte, Nat.reduceEqDiff, Nat.reduceAdd, B3, hlt] <;> rfl) ?_))
    refine WRun.skip ?_
    refine WRun.seq (WRun.block ?_)
    (first | refine WRun.seq (WRun.region ?_) | refine WRun.seq (WRun.seq (WRun.region ?_)) | refine WRun.region ?_ | refine WRun.seq (WRun.seq (WRun.seq (WRun.region ?_)))); ((repeat (first | refine WOps.a rfl (by simp only [reduceIte, Nat.reduceEqDiff, Nat.reduceAdd, B3, t13] <;> rfl) ?_ | refine WOps.b rfl rfl rfl (by simp only [reduceIte, Nat.reduceEqDiff, Nat.reduceAdd, B3, t13] <;> rfl) ?_)); refine WOps.nil ?_)
    refine WRun.seq (WRun.regionD (by kernel_rfl) ?_)
    ((repeat (first | refine WOps.a rfl (by simp only [reduceIte, Nat.reduceEqDiff, Nat.reduceAdd, B2, t0, t1, a1, d1, a2, d2, ce] <;> rfl) ?_ | refine WOps.b rfl rfl rfl (by simp only [reduceIte, Nat.reduceEqDiff, Nat.reduceAdd, B2, t0, t1, a1, d1, a2, d2, ce] <;> rfl) ?_)); refine WOps.nil ?_)
    (first | refine WRun.condF (by simp only [reduceIte, Nat.reduceEqDiff, Nat.reduceAdd, B3, t0] <;> rfl) ?_ | refine WRun.seq (WRun.condF (by simp only [reduceIte, Nat.reduceEqDiff, Nat.reduceAdd, B3, t0] <;> rfl) ?_))
    refine WRun.skip ?_
    (first | refine WRun.seq (WRun.region ?_) | refine WRun.seq (WRun.seq (WRun.region ?_)) | refine WRun.region ?_ | refine WRun.seq (WRun.seq (WRun.seq (WRun.region ?_)))); ((repeat (first | refine WOps.a rfl (by simp only [reduceIte, Nat.reduceEqDiff, Nat.reduceAdd, B3, t13, ad] <;> rfl) ?_ | refine WOps.b rfl rfl rfl (by simp only [reduceIte, Nat.reduceEqDiff, Nat.reduceAdd, B3, t13, ad] <;> rfl) ?_)); refine WOps.nil ?_)
    exact ⟨rfl, m - 1, by omega, x + 1, by omega, rfl, (by simp only [reduceIte, Nat.reduceEqDiff, Nat.reduceAdd, B3, t0] <;> rfl), (by simp only [reduceIte, Nat.reduceEqDiff, Nat.reduceAdd, B3, t1] <;> rfl), (by simp only [reduceIte, Nat.reduceEqDiff, Nat.reduceAdd, B3, t12] <;> rfl), (by simp only [reduceIte, Nat.reduceEqDiff, Nat.reduceAdd, B3, t13] <;> rfl)⟩
  · have hlt : ((x : Int) < (l.length : Int)) = False := by simp; omega
    (first | refine WRun.seq (WRun.region ?_) | refine WRun.seq (WRun.seq (WRun.region ?_)) | refine WRun.region ?_ | refine WRun.seq (WRun.seq (WRun.seq (WRun.region ?_)))); ((repeat (first | refine WOps.a rfl (by simp only [reduceIte, Nat.reduceEqDiff, Nat.reduceAdd, B3, t12, t13, hlt] <;> rfl) ?_ | refine WOps.b rfl rfl rfl (by simp only [reduceIte, Nat.reduceEqDiff, Nat.reduceAdd, B3, t12, t13, hlt] <;> rfl) ?_)); refine WOps.nil ?_)
    (first | refine WRun.condF (by simp only [reduceIte, Nat.reduceEqDiff, Nat.reduceAdd, B3, hlt] <;> rfl) ?_ | refine WRun.seq (WRun.condF (by simp only [reduceIte, Nat.reduceEqDiff, Nat.reduceAdd, B3, hlt] <;> rfl) ?_))
    refine WRun.exit ?_
    (first | refine WRun.seq (WRun.region ?_) | refine WRun.seq (WRun.seq (WRun.region ?_)) | refine WRun.region ?_ | refine WRun.seq (WRun.seq (WRun.seq (WRun.region ?_)))); ((repeat (first | refine WOps.a rfl (by simp only [reduceIte, Nat.reduceEqDiff, Nat.reduceAdd, B3, t0] <;> rfl) ?_ | refine WOps.b rfl rfl rfl (by simp only [reduceIte, Nat.reduceEqDiff, Nat.reduceAdd, B3, t0] <;> rfl) ?_)); refine WOps.nil ?_)
    exact WRun.ret ⟨trivial, rfl, rfl, (by simp only [reduceIte, Nat.reduceEqDiff, Nat.reduceAdd, B3, t0] <;> rfl)⟩
theorem op_callF2 {C : Ctx} {T : PT AV} {h : AH} {f x y : Operand} {g : Nat} {u v : AV} (hf : evOpd C.G T f = some (.fn g [])) (hx : evOpd C.G T x = some u) (hy : evOpd C.G T y = some v) {F : Func} (hF : C.fn.get g = some F) (he : C.ext.get g = none) {ts : Array TypeId} :
    evOp (.call { callee := .value f, args := #[x, y], argTypes := ts }) C T h = .call g [u, v] h := by
  show withL (oe none (evOpd C.G T x) fun v => oe none (oe none (evOpd C.G T y) fun v => oe none (some []) fun vs => some (v :: vs)) fun vs => some (v :: vs)) (fun args => with1 (evOpd C.G T f) fun f => evCallee C f args h) = _
  rw [hx, hy, hf]
  show callee C g [u, v] h = _
  unfold callee
  rw [he, hF]
theorem TabT.rowT {h : AH} {tv : AV} {t : List (List Int)} {R : Nat → AV} (q : TabT h tv t R) {i : Nat} {l : List Int} (hi : t[i]? = some l) : RowT h (R i) l :=
  ⟨q.rlen i l hi, fun j x hj h' e => q.ent i l j x hi hj h' e⟩
/-- slices.EqualFunc of equal tables. -/
theorem Tryz.c25 {S : Summ} (hS : S.get 25 = none) (hS24 : S.get 24 = none) {h : AH} {u v : AV} {t : List (List Int)} {R Q : Nat → AV} (qu : TabT h u t R) (qv : TabT h v t Q) (hl : t.length ≤ 1000000) (hr : ∀ l ∈ t, l.length ≤ 1000000) :
    RunCall Tryz.ctx S 25 [u, v, .fn 24 []] h ⟨.bool true, h⟩ := by
  refine WRun.calls1 (r := 6) hS Tryz.fn25 rfl rfl rfl rfl ?_
  have lu := qu.len
  have lv := qv.len
  have g0 : (argsT [u, v, .fn 24 []] 0 .leaf).get 0 = some u := rfl
  have g1 : (argsT [u, v, .fn 24 []] 0 .leaf).get 1 = some v := rfl
  have g2 : (argsT [u, v, .fn 24 []] 0 .leaf).get 2 = some (.fn 24 []) := rfl
  have ee : decide ((t.length : Int) = (t.length : Int)) = true := by simp
  generalize argsT [u, v, .fn 24 []] 0 .leaf = T at g0 g1 g2
  (first | refine WRun.seq (WRun.region ?_) | refine WRun.seq (WRun.seq (WRun.region ?_)) | refine WRun.region ?_ | refine WRun.seq (WRun.seq (WRun.seq (WRun.region ?_)))); ((repeat (first | refine WOps.a rfl (by simp only [reduceIte, Nat.reduceEqDiff, Nat.reduceAdd, B3, g0] <;> rfl) ?_ | refine WOps.b rfl rfl rfl (by simp only [reduceIte, Nat.reduceEqDiff, Nat.reduceAdd, B3, g0] <;> rfl) ?_)); refine WOps.nil ?_)
  (first | refine WRun.seq (WRun.region ?_) | refine WRun.seq (WRun.seq (WRun.region ?_)) | refine WRun.region ?_ | refine WRun.seq (WRun.seq (WRun.seq (WRun.region ?_)))); ((repeat (first | refine WOps.a rfl (by simp only [reduceIte, Nat.reduceEqDiff, Nat.reduceAdd, B3, g0, g1, lu, lv, ee] <;> rfl) ?_ | refine WOps.b rfl rfl rfl (by simp only [reduceIte, Nat.reduceEqDiff, Nat.reduceAdd, B3, g0, g1, lu, lv, ee] <;> rfl) ?_)); refine WOps.nil ?_)
  (first | refine WRun.condF (by simp only [reduceIte, Nat.reduceEqDiff, Nat.reduceAdd, B3, g0] <;> rfl) ?_ | refine WRun.seq (WRun.condF (by simp only [reduceIte, Nat.reduceEqDiff, Nat.reduceAdd, B3, g0] <;> rfl) ?_))
  refine WRun.skip ?_
  (first | refine WRun.seq (WRun.region ?_) | refine WRun.seq (WRun.seq (WRun.region ?_)) | refine WRun.region ?_ | refine WRun.seq (WRun.seq (WRun.seq (WRun.region ?_)))); ((repeat (first | refine WOps.a rfl (by simp only [reduceIte, Nat.reduceEqDiff, Nat.reduceAdd, B3, g0, lu] <;> rfl) ?_ | refine WOps.b rfl rfl rfl (by simp only [reduceIte, Nat.reduceEqDiff, Nat.reduceAdd, B3, g0, lu] <;> rfl) ?_)); refine WOps.nil ?_)
  (first | refine WRun.block ?_ | refine WRun.seq (WRun.block ?_) | refine WRun.seq (WRun.seq (WRun.block ?_)))
  refine WRun.loop (I := fun m T h' => ∃ x : Nat, m + x = t.length ∧ h' = ⟨h.t, h.next, h.next, []⟩ ∧ T.get 1 = some v ∧ T.get 2 = some (.fn 24 []) ∧ T.get 15 = some u ∧ T.get 16 = some (.int .i64 t.length) ∧ T.get 17 = some (.int .i64 x)) (m := t.length) ?_
    ⟨0, by omega, rfl, (by simp only [reduceIte, Nat.reduceEqDiff, Nat.reduceAdd, B3, g1] <;> rfl), (by simp only [reduceIte, Nat.reduceEqDiff, Nat.reduceAdd, B3, g2] <;> rfl), (by simp only [reduceIte, Nat.reduceEqDiff, Nat.reduceAdd, B3, g0] <;> rfl), (by simp only [reduceIte, Nat.reduceEqDiff, Nat.reduceAdd, B3, g0] <;> rfl), (by simp only [reduceIte, Nat.reduceEqDiff, Nat.reduceAdd, B3, g0] <;> rfl)⟩
  clear g0 g1 g2
  rintro m T _ ⟨x, hm, rfl, t1, t2, t15, t16, t17⟩
  by_cases hx : x < t.length
  · have hlt : ((x : Int) < (t.length : Int)) = True := by simp; exact hx
    have ad := add1 x (by omega)
    obtain ⟨l, hc⟩ : ∃ l, t[x]? = some l := ⟨_, List.getElem?_eq_getElem hx⟩
    obtain ⟨b1, o1, a1, d1⟩ := qu.row x l hc ⟨h.t, h.next, h.next, []⟩ fun _ _ e => e
    obtain ⟨b2, o2, a2, d2⟩ := qv.row x l hc ⟨h.t, h.next, h.next, []⟩ fun _ _ e => e
    have eq := Tryz.c24 hS24 (h := ⟨h.t, h.next, h.next, []⟩) ((qu.rowT hc).mono fun _ _ e => e) ((qv.rowT hc).mono fun _ _ e => e) (hr l (List.mem_of_getElem? hc))
    (first | refine WRun.seq (WRun.region ?_) | refine WRun.seq (WRun.seq (WRun.region ?_)) | refine WRun.region ?_ | refine WRun.seq (WRun.seq (WRun.seq (WRun.region ?_)))); ((repeat (first | refine WOps.a rfl (by simp only [reduceIte, Nat.reduceEqDiff, Nat.reduceAdd, B3, t16, t17, hlt] <;> rfl) ?_ | refine WOps.b rfl rfl rfl (by simp only [reduceIte, Nat.reduceEqDiff, Nat.reduceAdd, B3, t16, t17, hlt] <;> rfl) ?_)); refine WOps.nil ?_)
    (first | refine WRun.condT (by simp only [reduceIte, Nat.reduceEqDiff, Nat.reduceAdd, B3, hlt] <;> rfl) ?_ | refine WRun.seq (WRun.condT (by simp only [reduceIte, Nat.reduceEqDiff, Nat.reduceAdd, B3, hlt] <;> rfl) ?_))
    refine WRun.skip ?_
    refine WRun.seq (WRun.block ?_)
    (first | refine WRun.seq (WRun.region ?_) | refine WRun.seq (WRun.seq (WRun.region ?_)) | refine WRun.region ?_ | refine WRun.seq (WRun.seq (WRun.seq (WRun.region ?_)))); ((repeat (first | refine WOps.a rfl (by simp only [reduceIte, Nat.reduceEqDiff, Nat.reduceAdd, B2, t15, t17, a1, d1] <;> rfl) ?_ | refine WOps.b rfl rfl rfl (by simp only [reduceIte, Nat.reduceEqDiff, Nat.reduceAdd, B2, t15, t17, a1, d1] <;> rfl) ?_)); refine WOps.nil ?_)
    (first | refine WRun.seq (WRun.region ?_) | refine WRun.seq (WRun.seq (WRun.region ?_)) | refine WRun.region ?_ | refine WRun.seq (WRun.seq (WRun.seq (WRun.region ?_)))); ((repeat (first | refine WOps.a rfl (by simp only [reduceIte, Nat.reduceEqDiff, Nat.reduceAdd, B2, t1, t17, a2, d2] <;> rfl) ?_ | refine WOps.b rfl rfl rfl (by simp only [reduceIte, Nat.reduceEqDiff, Nat.reduceAdd, B2, t1, t17, a2, d2] <;> rfl) ?_)); refine WOps.nil ?_)
    (first | refine WRun.seq (WRun.region ?_) | refine WRun.seq (WRun.seq (WRun.region ?_)) | refine WRun.region ?_ | refine WRun.seq (WRun.seq (WRun.seq (WRun.region ?_))))
    iterate 3 (first | refine WOps.a rfl (by simp only [reduceIte, Nat.reduceEqDiff, Nat.reduceAdd, B3, t2] <;> rfl) ?_ | refine WOps.vG ((guard_bool rfl rfl (by simp only [reduceIte, Nat.reduceEqDiff, Nat.reduceAdd, B3, t2] <;> rfl)).trans rfl) (by simp only [reduceIte, Nat.reduceEqDiff, Nat.reduceAdd, B3, t2] <;> rfl) rfl ?_ | refine WOps.nG (by first | exact (guard_bool rfl rfl (by simp only [reduceIte, Nat.reduceEqDiff, Nat.reduceAdd, B3, t2] <;> rfl)).trans rfl | exact guard_not rfl rfl (by simp only [reduceIte, Nat.reduceEqDiff, Nat.reduceAdd, B3, t2] <;> rfl)) rfl ?_)
    refine WOps.cN (op_callF2 (u := R x) (v := Q x) (by simp only [reduceIte, Nat.reduceEqDiff, Nat.reduceAdd, B3, t2] <;> rfl) (by simp only [reduceIte, Nat.reduceEqDiff, Nat.reduceAdd, B3, t2] <;> rfl) (by simp only [reduceIte, Nat.reduceEqDiff, Nat.reduceAdd, B3, t2] <;> rfl) Tryz.fn24 Tryz.ex24) eq rfl ?_
    ((repeat (first | refine WOps.a rfl (by simp only [reduceIte, Nat.reduceEqDiff, Nat.reduceAdd, B3, t2] <;> rfl) ?_ | refine WOps.b rfl rfl rfl (by simp only [reduceIte, Nat.reduceEqDiff, Nat.reduceAdd, B3, t2] <;> rfl) ?_)); refine WOps.nil ?_)
    (first | refine WRun.condF (by simp only [reduceIte, Nat.reduceEqDiff, Nat.reduceAdd, B3, t2] <;> rfl) ?_ | refine WRun.seq (WRun.condF (by simp only [reduceIte, Nat.reduceEqDiff, Nat.reduceAdd, B3, t2] <;> rfl) ?_))
    refine WRun.skip ?_
    (first | refine WRun.seq (WRun.region ?_) | refine WRun.seq (WRun.seq (WRun.region ?_)) | refine WRun.region ?_ | refine WRun.seq (WRun.seq (WRun.seq (WRun.region ?_)))); ((repeat (first | refine WOps.a rfl (by simp only [reduceIte, Nat.reduceEqDiff, Nat.reduceAdd, B3, t17, ad] <;> rfl) ?_ | refine WOps.b rfl rfl rfl (by simp only [reduceIte, Nat.reduceEqDiff, Nat.reduceAdd, B3, t17, ad] <;> rfl) ?_)); refine WOps.nil ?_)
    exact ⟨rfl, m - 1, by omega, x + 1, by omega, rfl, (by simp only [reduceIte, Nat.reduceEqDiff, Nat.reduceAdd, B3, t1] <;> rfl), (by simp only [reduceIte, Nat.reduceEqDiff, Nat.reduceAdd, B3, t2] <;> rfl), (by simp only [reduceIte, Nat.reduceEqDiff, Nat.reduceAdd, B3, t15] <;> rfl), (by simp only [reduceIte, Nat.reduceEqDiff, Nat.reduceAdd, B3, t16] <;> rfl), (by simp only [reduceIte, Nat.reduceEqDiff, Nat.reduceAdd, B3, t17] <;> rfl)⟩
  · have hlt : ((x : Int) < (t.length : Int)) = False := by simp; omega
    (first | refine WRun.seq (WRun.region ?_) | refine WRun.seq (WRun.seq (WRun.region ?_)) | refine WRun.region ?_ | refine WRun.seq (WRun.seq (WRun.seq (WRun.region ?_)))); ((repeat (first | refine WOps.a rfl (by simp only [reduceIte, Nat.reduceEqDiff, Nat.reduceAdd, B3, t16, t17, hlt] <;> rfl) ?_ | refine WOps.b rfl rfl rfl (by simp only [reduceIte, Nat.reduceEqDiff, Nat.reduceAdd, B3, t16, t17, hlt] <;> rfl) ?_)); refine WOps.nil ?_)
    (first | refine WRun.condF (by simp only [reduceIte, Nat.reduceEqDiff, Nat.reduceAdd, B3, hlt] <;> rfl) ?_ | refine WRun.seq (WRun.condF (by simp only [reduceIte, Nat.reduceEqDiff, Nat.reduceAdd, B3, hlt] <;> rfl) ?_))
    refine WRun.exit ?_
    (first | refine WRun.seq (WRun.region ?_) | refine WRun.seq (WRun.seq (WRun.region ?_)) | refine WRun.region ?_ | refine WRun.seq (WRun.seq (WRun.seq (WRun.region ?_)))); ((repeat (first | refine WOps.a rfl (by simp only [reduceIte, Nat.reduceEqDiff, Nat.reduceAdd, B3, t1] <;> rfl) ?_ | refine WOps.b rfl rfl rfl (by simp only [reduceIte, Nat.reduceEqDiff, Nat.reduceAdd, B3, t1] <;> rfl) ?_)); refine WOps.nil ?_)
    exact WRun.ret ⟨trivial, rfl, rfl, (by simp only [reduceIte, Nat.reduceEqDiff, Nat.reduceAdd, B3, t1] <;> rfl)⟩
/-- same of equal proofs. -/
theorem Tryz.c9 {S : Summ} (hS : S.get 9 = none) (hS24 : S.get 24 = none) (hS25 : S.get 25 = none) {h : AH} (low : ∀ b x, h.t.get b = some x → b < h.next) {k m : Int} {tv cv tv' cv' : AV} {t : List (List Int)} {R Q : Nat → AV} {l : List Int}
    (qt : TabT h tv t R) (qt' : TabT h tv' t Q) (qc : RowT h cv l) (qc' : RowT h cv' l) (ht : t.length ≤ 1000000) (hr : ∀ l ∈ t, l.length ≤ 1000000) (hl : l.length ≤ 1000000) :
    RunCall Tryz.ctx S 9 [.agg [.int .i64 k, .int .i64 m, tv, cv], .agg [.int .i64 k, .int .i64 m, tv', cv']] h ⟨.bool true, h⟩ := by
  refine WRun.calls1 (r := 4) hS Tryz.fn9 rfl rfl rfl rfl ?_
  have M := ((Mine.start low).add (.cells [.int .i64 k, .int .i64 m, tv, cv] 0)).add (.cells [.int .i64 k, .int .i64 m, tv', cv'] 0)
  have ga : (((⟨h.t, h.next, h.next, []⟩ : AH).add (.cells [.int .i64 k, .int .i64 m, tv, cv] 0)).add (.cells [.int .i64 k, .int .i64 m, tv', cv'] 0)).t.get h.next = some (.cells [.int .i64 k, .int .i64 m, tv, cv] 0) := by
    rw [get_add, if_neg (by rw [next_add]; show h.next ≠ h.next + 1; omega)]; exact get_add_self (h := ⟨h.t, h.next, h.next, []⟩)
  have gb : (((⟨h.t, h.next, h.next, []⟩ : AH).add (.cells [.int .i64 k, .int .i64 m, tv, cv] 0)).add (.cells [.int .i64 k, .int .i64 m, tv', cv'] 0)).t.get (h.next + 1) = some (.cells [.int .i64 k, .int .i64 m, tv', cv'] 0) :=
    get_add_self (h := (⟨h.t, h.next, h.next, []⟩ : AH).add _)
  have g0 : (argsT [.agg [.int .i64 k, .int .i64 m, tv, cv], .agg [.int .i64 k, .int .i64 m, tv', cv']] 0 .leaf).get 0 = some (.agg [.int .i64 k, .int .i64 m, tv, cv]) := rfl
  have g1 : (argsT [.agg [.int .i64 k, .int .i64 m, tv, cv], .agg [.int .i64 k, .int .i64 m, tv', cv']] 0 .leaf).get 1 = some (.agg [.int .i64 k, .int .i64 m, tv', cv']) := rfl
  generalize argsT [.agg [.int .i64 k, .int .i64 m, tv, cv], .agg [.int .i64 k, .int .i64 m, tv', cv']] 0 .leaf = T at g0 g1
  (first | refine WRun.seq (WRun.region ?_) | refine WRun.seq (WRun.seq (WRun.region ?_)) | refine WRun.region ?_ | refine WRun.seq (WRun.seq (WRun.seq (WRun.region ?_)))); ((repeat (first | refine WOps.a rfl (by simp only [reduceIte, Nat.reduceEqDiff, Nat.reduceAdd, B3, g0, g1] <;> rfl) ?_ | refine WOps.b rfl rfl rfl (by simp only [reduceIte, Nat.reduceEqDiff, Nat.reduceAdd, B3, g0, g1] <;> rfl) ?_)); refine WOps.nil ?_)
  refine WRun.withT (P := fun T => T.get 2 = some (.ptr h.next 0) ∧ T.get 3 = some (.ptr (h.next + 1) 0)) ⟨(by simp only [reduceIte, Nat.reduceEqDiff, Nat.reduceAdd, B3, g0] <;> rfl), (by simp only [reduceIte, Nat.reduceEqDiff, Nat.reduceAdd, B3, g0] <;> rfl)⟩ ?_
  generalize (((⟨h.t, h.next, h.next, []⟩ : AH).add (.cells [.int .i64 k, .int .i64 m, tv, cv] 0)).add (.cells [.int .i64 k, .int .i64 m, tv', cv'] 0)) = H at M ga gb
  clear g0 g1 T
  rintro T ⟨t2, t3⟩
  have a0 : evLoad Tryz.y3 (.ptr h.next 0) H = .val (.int .i64 k) H := load_word rfl ga rfl
  have a1 : evLoad Tryz.y3 (.ptr h.next 1) H = .val (.int .i64 m) H := load_word rfl ga rfl
  have a2 : evLoad Tryz.y22 (.ptr h.next 2) H = .val tv H := load_word rfl ga rfl
  have a3 : evLoad Tryz.y25 (.ptr h.next 3) H = .val cv H := load_word rfl ga rfl
  have b0 : evLoad Tryz.y3 (.ptr (h.next + 1) 0) H = .val (.int .i64 k) H := load_word rfl gb rfl
  have b1 : evLoad Tryz.y3 (.ptr (h.next + 1) 1) H = .val (.int .i64 m) H := load_word rfl gb rfl
  have b2 : evLoad Tryz.y22 (.ptr (h.next + 1) 2) H = .val tv' H := load_word rfl gb rfl
  have b3 : evLoad Tryz.y25 (.ptr (h.next + 1) 3) H = .val cv' H := load_word rfl gb rfl
  have ek : decide (k = k) = true := by simp
  have em : decide (m = m) = true := by simp
  (first | refine WRun.seq (WRun.region ?_) | refine WRun.seq (WRun.seq (WRun.region ?_)) | refine WRun.region ?_ | refine WRun.seq (WRun.seq (WRun.seq (WRun.region ?_))))
  iterate 17 (first | refine WOps.a rfl (by simp only [reduceIte, Nat.reduceEqDiff, Nat.reduceAdd, B2, t2, t3, a0, a1, a3, b0, b1, b3, ek, em] <;> rfl) ?_ | refine WOps.vG ((guard_bool rfl rfl (by simp only [reduceIte, Nat.reduceEqDiff, Nat.reduceAdd, B2, t2, t3, a0, a1, a3, b0, b1, b3, ek, em] <;> rfl)).trans rfl) (by simp only [reduceIte, Nat.reduceEqDiff, Nat.reduceAdd, B2, t2, t3, a0, a1, a3, b0, b1, b3, ek, em] <;> rfl) rfl ?_ | refine WOps.nG (by first | exact (guard_bool rfl rfl (by simp only [reduceIte, Nat.reduceEqDiff, Nat.reduceAdd, B2, t2, t3, a0, a1, a3, b0, b1, b3, ek, em] <;> rfl)).trans rfl | exact guard_not rfl rfl (by simp only [reduceIte, Nat.reduceEqDiff, Nat.reduceAdd, B2, t2, t3, a0, a1, a3, b0, b1, b3, ek, em] <;> rfl)) rfl ?_)
  refine WOps.cG ((guard_bool rfl rfl (by simp only [reduceIte, Nat.reduceEqDiff, Nat.reduceAdd, B3, t2] <;> rfl)).trans rfl) (op_call2 (v := cv) (u := cv') (by simp only [reduceIte, Nat.reduceEqDiff, Nat.reduceAdd, B3, t2] <;> rfl) (by simp only [reduceIte, Nat.reduceEqDiff, Nat.reduceAdd, B3, t2] <;> rfl) Tryz.fn24 Tryz.ex24) (Tryz.c24 hS24 (qc.mono M.ext) (qc'.mono M.ext) hl) rfl ?_
  iterate 8 (first | refine WOps.a rfl (by simp only [reduceIte, Nat.reduceEqDiff, Nat.reduceAdd, B2, t2, t3, a2, b2] <;> rfl) ?_ | refine WOps.vG ((guard_bool rfl rfl (by simp only [reduceIte, Nat.reduceEqDiff, Nat.reduceAdd, B2, t2, t3, a2, b2] <;> rfl)).trans rfl) (by simp only [reduceIte, Nat.reduceEqDiff, Nat.reduceAdd, B2, t2, t3, a2, b2] <;> rfl) rfl ?_ | refine WOps.nG (by first | exact (guard_bool rfl rfl (by simp only [reduceIte, Nat.reduceEqDiff, Nat.reduceAdd, B2, t2, t3, a2, b2] <;> rfl)).trans rfl | exact guard_not rfl rfl (by simp only [reduceIte, Nat.reduceEqDiff, Nat.reduceAdd, B2, t2, t3, a2, b2] <;> rfl)) rfl ?_)
  refine WOps.cG ((guard_bool rfl rfl (by simp only [reduceIte, Nat.reduceEqDiff, Nat.reduceAdd, B3, t2] <;> rfl)).trans rfl) (op_call3 (u := tv) (v := tv') (w := .fn 24 []) (by simp only [reduceIte, Nat.reduceEqDiff, Nat.reduceAdd, B3, t2] <;> rfl) (by simp only [reduceIte, Nat.reduceEqDiff, Nat.reduceAdd, B3, t2] <;> rfl) (by simp only [reduceIte, Nat.reduceEqDiff, Nat.reduceAdd, B3, t2] <;> rfl) Tryz.fn25 Tryz.ex25) (Tryz.c25 hS25 hS24 (qt.mono M.ext) (qt'.mono M.ext) ht hr) rfl ?_
  ((repeat (first | refine WOps.a rfl (by simp only [reduceIte, Nat.reduceEqDiff, Nat.reduceAdd, B3, t2] <;> rfl) ?_ | refine WOps.b rfl rfl rfl (by simp only [reduceIte, Nat.reduceEqDiff, Nat.reduceAdd, B3, t2] <;> rfl) ?_)); refine WOps.nil ?_)
  exact WRun.ret ⟨trivial, rfl, M.log, (by simp only [reduceIte, Nat.reduceEqDiff, Nat.reduceAdd, B3, t2] <;> rfl)⟩
end Go.Proofs
