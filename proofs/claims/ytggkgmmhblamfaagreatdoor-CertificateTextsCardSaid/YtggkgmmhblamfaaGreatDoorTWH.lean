/- Part of the proof. -/
import Derived.Test.YtggkgmmhblamfaaGreatDoorTWG
set_option linter.all false
namespace Go.Proofs
open Go.Ev
set_option maxRecDepth 100000
theorem isTypeB_spec : ∀ {l : List Int} {n last : Int}, isTypeB n last l = true → (∀ (i : Nat) (c : Int), l[i]? = some c → 1 ≤ c ∧ c ≤ last) ∧ (∀ (i : Nat) (c d : Int), l[i]? = some c → l[i + 1]? = some d → d ≤ c) ∧ l.sum = n
  | [], n, last, h => by
    have h : n = 0 := by simpa [isTypeB] using h
    exact ⟨fun i c hc => by simp at hc, fun i c d hc => by simp at hc, by simp [h]⟩
  | x :: l, n, last, h => by
    rw [isTypeB] at h
    split at h
    · cases h
    rename_i hx
    obtain ⟨h1, h2, h3⟩ := isTypeB_spec h
    refine ⟨fun i c hc => ?_, fun i c d hc hd => ?_, by rw [List.sum_cons, h3]; omega⟩
    · cases i with
      | zero =>
        have hc : x = c := by simpa using hc
        subst hc; omega
      | succ i =>
        have := h1 i c (by simpa using hc)
        omega
    · cases i with
      | zero =>
        have hc : x = c := by simpa using hc
        subst hc
        exact (h1 0 d (by simpa using hd)).2
      | succ i => exact h2 i c d (by simpa using hc) (by simpa using hd)
theorem sum_take_bounds {l : List Int} (h : ∀ (i : Nat) (c : Int), l[i]? = some c → 1 ≤ c) (x : Nat) : 0 ≤ (l.take x).sum ∧ (l.take x).sum ≤ l.sum := by
  have key : ∀ l : List Int, (∀ c ∈ l, 1 ≤ c) → 0 ≤ l.sum := by
    intro l hl
    induction l with
    | nil => simp
    | cons a l ih =>
      have := hl a List.mem_cons_self
      have := ih fun c hc => hl c (List.mem_cons_of_mem _ hc)
      rw [List.sum_cons]; omega
  have hm : ∀ c ∈ l, 1 ≤ c := fun c hc => by
    obtain ⟨i, hi⟩ := List.getElem?_of_mem hc
    exact h i c hi
  have h1 := key (l.take x) fun c hc => hm c (List.mem_of_mem_take hc)
  have h2 := key (l.drop x) fun c hc => hm c (List.mem_of_mem_drop hc)
  have h3 : (l.take x).sum + (l.drop x).sum = l.sum := by rw [← List.sum_append, List.take_append_drop]
  omega
theorem sum_take_succ {l : List Int} {x : Nat} {c : Int} (h : l[x]? = some c) : (l.take (x + 1)).sum = (l.take x).sum + c := by
  rw [take_snoc h, List.sum_append]; simp
theorem Tryz.c7_3 {S : Summ} (hS7 : S.get 7 = none) (G : Gets S) {h : AH} (low : ∀ b x, h.t.get b = some x → b < h.next) {m : Int} {tv cv : AV} {t : List (List Int)} {R : Nat → AV} {l : List Int} (q : PrV h m tv cv t R l) (v : t = [] ∧ l = [] ∧ 1 ≤ m ∧ m ≤ 1000) :
    RunCall Tryz.ctx S 7 [.agg [.int .i64 3, .int .i64 m, tv, cv]] h ⟨.bool true, h⟩ := by
  refine WRun.calls1 (r := 2) hS7 Tryz.fn7 rfl rfl rfl rfl ?_
  have hO := (Mine.start low).add (.cells [.int .i64 3, .int .i64 m, tv, cv] 0)
  have hb : ((⟨h.t, h.next, h.next, []⟩ : AH).add (.cells [.int .i64 3, .int .i64 m, tv, cv] 0)).t.get h.next = some (.cells [.int .i64 3, .int .i64 m, tv, cv] 0) := get_add_self
  have g0 : (argsT [.agg [.int .i64 3, .int .i64 m, tv, cv]] 0 .leaf).get 0 = some (.agg [.int .i64 3, .int .i64 m, tv, cv]) := rfl
  generalize argsT [.agg [.int .i64 3, .int .i64 m, tv, cv]] 0 .leaf = T at g0
  (first | refine WRun.seq (WRun.region ?_) | refine WRun.seq (WRun.seq (WRun.region ?_)) | refine WRun.region ?_ | refine WRun.seq (WRun.seq (WRun.seq (WRun.region ?_)))); ((repeat (first | refine WOps.a rfl (by simp only [reduceIte, Nat.reduceEqDiff, Nat.reduceAdd, B3, g0] <;> rfl) ?_ | refine WOps.b rfl rfl rfl (by simp only [reduceIte, Nat.reduceEqDiff, Nat.reduceAdd, B3, g0] <;> rfl) ?_)); refine WOps.nil ?_)
  generalize ((⟨h.t, h.next, h.next, []⟩ : AH).add (.cells [.int .i64 3, .int .i64 m, tv, cv] 0)) = H at hO hb
  have l0 : evLoad Tryz.y3 (.ptr h.next 0) H = .val (.int .i64 3) H := load_word rfl hb rfl
  have l1 : evLoad Tryz.y3 (.ptr h.next 1) H = .val (.int .i64 m) H := load_word rfl hb rfl
  have l2 : evLoad Tryz.y24 (.ptr h.next 2) H = .val (.agg [tv]) H := by rw [load_ptr, hb]; rfl
  have l2' : evLoad Tryz.y22 (.ptr h.next 2) H = .val tv H := load_word rfl hb rfl
  have l3 : evLoad Tryz.y25 (.ptr h.next 3) H = .val cv H := load_word rfl hb rfl
  have ql := q.tab.len
  have rl := (q.row).len
  obtain ⟨rfl, rfl, m1, m2⟩ := v
  have e1 : decide (1 ≤ m) = true := by simpa using m1
  have e2 : decide (m ≤ 1000) = true := by simpa using m2
  have z1 : ((([] : List Int).length : Nat) : Int) = 0 := rfl
  have z2 : ((([] : List (List Int)).length : Nat) : Int) = 0 := rfl
  have z0 : decide ((0 : Int) < 0) = false := rfl
  (first | refine WRun.seq (WRun.region ?_) | refine WRun.seq (WRun.seq (WRun.region ?_)) | refine WRun.region ?_ | refine WRun.seq (WRun.seq (WRun.seq (WRun.region ?_)))); ((repeat (first | refine WOps.a rfl (by simp only [reduceIte, Nat.reduceEqDiff, Nat.reduceAdd, B2, g0, l0] <;> rfl) ?_ | refine WOps.b rfl rfl rfl (by simp only [reduceIte, Nat.reduceEqDiff, Nat.reduceAdd, B2, g0, l0] <;> rfl) ?_)); refine WOps.nil ?_)
  (first | refine WRun.seq (WRun.region ?_) | refine WRun.seq (WRun.seq (WRun.region ?_)) | refine WRun.region ?_ | refine WRun.seq (WRun.seq (WRun.seq (WRun.region ?_)))); ((repeat (first | refine WOps.a rfl (by simp only [reduceIte, Nat.reduceEqDiff, Nat.reduceAdd, B2, g0, l0, l1, l2', l3, ql, rl, z1, z2, z0] <;> rfl) ?_ | refine WOps.b rfl rfl rfl (by simp only [reduceIte, Nat.reduceEqDiff, Nat.reduceAdd, B2, g0, l0, l1, l2', l3, ql, rl, z1, z2, z0] <;> rfl) ?_)); refine WOps.nil ?_)
  (first | refine WRun.condF (by simp only [reduceIte, Nat.reduceEqDiff, Nat.reduceAdd, B3, g0] <;> rfl) ?_ | refine WRun.seq (WRun.condF (by simp only [reduceIte, Nat.reduceEqDiff, Nat.reduceAdd, B3, g0] <;> rfl) ?_))
  refine WRun.skip ?_
  (first | refine WRun.seq (WRun.region ?_) | refine WRun.seq (WRun.seq (WRun.region ?_)) | refine WRun.region ?_ | refine WRun.seq (WRun.seq (WRun.seq (WRun.region ?_)))); ((repeat (first | refine WOps.a rfl (by simp only [reduceIte, Nat.reduceEqDiff, Nat.reduceAdd, B2, g0, l0] <;> rfl) ?_ | refine WOps.b rfl rfl rfl (by simp only [reduceIte, Nat.reduceEqDiff, Nat.reduceAdd, B2, g0, l0] <;> rfl) ?_)); refine WOps.nil ?_)
  refine (show WRun Tryz.ctx S 7 Tryz.f7.ntmps none _ _ _ _ _ from ?_)
  refine WRun.block ?_
  (first | refine WRun.seq (WRun.region ?_) | refine WRun.seq (WRun.seq (WRun.region ?_)) | refine WRun.region ?_ | refine WRun.seq (WRun.seq (WRun.seq (WRun.region ?_)))); ((repeat (first | refine WOps.a rfl (by simp only [reduceIte, Nat.reduceEqDiff, Nat.reduceAdd, B3, g0] <;> rfl) ?_ | refine WOps.b rfl rfl rfl (by simp only [reduceIte, Nat.reduceEqDiff, Nat.reduceAdd, B3, g0] <;> rfl) ?_)); refine WOps.nil ?_)
  (first | refine WRun.condT (by simp only [reduceIte, Nat.reduceEqDiff, Nat.reduceAdd, B3, g0] <;> rfl) ?_ | refine WRun.seq (WRun.condT (by simp only [reduceIte, Nat.reduceEqDiff, Nat.reduceAdd, B3, g0] <;> rfl) ?_))
  (first | refine WRun.seq (WRun.region ?_) | refine WRun.seq (WRun.seq (WRun.region ?_)) | refine WRun.region ?_ | refine WRun.seq (WRun.seq (WRun.seq (WRun.region ?_)))); ((repeat (first | refine WOps.a rfl (by simp only [reduceIte, Nat.reduceEqDiff, Nat.reduceAdd, B2, g0, l1, e1, e2] <;> rfl) ?_ | refine WOps.b rfl rfl rfl (by simp only [reduceIte, Nat.reduceEqDiff, Nat.reduceAdd, B2, g0, l1, e1, e2] <;> rfl) ?_)); refine WOps.nil ?_)
  exact WRun.ret ⟨trivial, rfl, hO.log, (by simp only [reduceIte, Nat.reduceEqDiff, Nat.reduceAdd, B3, g0] <;> rfl)⟩
theorem Tryz.c7_4 {S : Summ} (hS7 : S.get 7 = none) (G : Gets S) {h : AH} (low : ∀ b x, h.t.get b = some x → b < h.next) {m : Int} {tv cv : AV} {t : List (List Int)} {R : Nat → AV} {l : List Int} (q : PrV h m tv cv t R l) (v : m = 0 ∧ l = [] ∧ VT t) :
    RunCall Tryz.ctx S 7 [.agg [.int .i64 4, .int .i64 m, tv, cv]] h ⟨.bool true, h⟩ := by
  refine WRun.calls1 (r := 2) hS7 Tryz.fn7 rfl rfl rfl rfl ?_
  have hO := (Mine.start low).add (.cells [.int .i64 4, .int .i64 m, tv, cv] 0)
  have hb : ((⟨h.t, h.next, h.next, []⟩ : AH).add (.cells [.int .i64 4, .int .i64 m, tv, cv] 0)).t.get h.next = some (.cells [.int .i64 4, .int .i64 m, tv, cv] 0) := get_add_self
  have g0 : (argsT [.agg [.int .i64 4, .int .i64 m, tv, cv]] 0 .leaf).get 0 = some (.agg [.int .i64 4, .int .i64 m, tv, cv]) := rfl
  generalize argsT [.agg [.int .i64 4, .int .i64 m, tv, cv]] 0 .leaf = T at g0
  (first | refine WRun.seq (WRun.region ?_) | refine WRun.seq (WRun.seq (WRun.region ?_)) | refine WRun.region ?_ | refine WRun.seq (WRun.seq (WRun.seq (WRun.region ?_)))); ((repeat (first | refine WOps.a rfl (by simp only [reduceIte, Nat.reduceEqDiff, Nat.reduceAdd, B3, g0] <;> rfl) ?_ | refine WOps.b rfl rfl rfl (by simp only [reduceIte, Nat.reduceEqDiff, Nat.reduceAdd, B3, g0] <;> rfl) ?_)); refine WOps.nil ?_)
  generalize ((⟨h.t, h.next, h.next, []⟩ : AH).add (.cells [.int .i64 4, .int .i64 m, tv, cv] 0)) = H at hO hb
  have l0 : evLoad Tryz.y3 (.ptr h.next 0) H = .val (.int .i64 4) H := load_word rfl hb rfl
  have l1 : evLoad Tryz.y3 (.ptr h.next 1) H = .val (.int .i64 m) H := load_word rfl hb rfl
  have l2 : evLoad Tryz.y24 (.ptr h.next 2) H = .val (.agg [tv]) H := by rw [load_ptr, hb]; rfl
  have l2' : evLoad Tryz.y22 (.ptr h.next 2) H = .val tv H := load_word rfl hb rfl
  have l3 : evLoad Tryz.y25 (.ptr h.next 3) H = .val cv H := load_word rfl hb rfl
  have ql := q.tab.len
  have rl := (q.row).len
  have z1 : ((([] : List Int).length : Nat) : Int) = 0 := rfl
  have z2 : ((([] : List (List Int)).length : Nat) : Int) = 0 := rfl
  have z0 : decide ((0 : Int) < 0) = false := rfl
  have nz : decide ((0 : Int) = 0) = true := rfl
  obtain ⟨rfl, rfl, vt⟩ := v
  (first | refine WRun.seq (WRun.region ?_) | refine WRun.seq (WRun.seq (WRun.region ?_)) | refine WRun.region ?_ | refine WRun.seq (WRun.seq (WRun.seq (WRun.region ?_)))); ((repeat (first | refine WOps.a rfl (by simp only [reduceIte, Nat.reduceEqDiff, Nat.reduceAdd, B2, g0, l0] <;> rfl) ?_ | refine WOps.b rfl rfl rfl (by simp only [reduceIte, Nat.reduceEqDiff, Nat.reduceAdd, B2, g0, l0] <;> rfl) ?_)); refine WOps.nil ?_)
  (first | refine WRun.seq (WRun.region ?_) | refine WRun.seq (WRun.seq (WRun.region ?_)) | refine WRun.region ?_ | refine WRun.seq (WRun.seq (WRun.seq (WRun.region ?_)))); ((repeat (first | refine WOps.a rfl (by simp only [reduceIte, Nat.reduceEqDiff, Nat.reduceAdd, B2, g0, l0, l1, l2', l3, ql, rl, z1, z0, nz] <;> rfl) ?_ | refine WOps.b rfl rfl rfl (by simp only [reduceIte, Nat.reduceEqDiff, Nat.reduceAdd, B2, g0, l0, l1, l2', l3, ql, rl, z1, z0, nz] <;> rfl) ?_)); refine WOps.nil ?_)
  (first | refine WRun.condF (by simp only [reduceIte, Nat.reduceEqDiff, Nat.reduceAdd, B3, g0] <;> rfl) ?_ | refine WRun.seq (WRun.condF (by simp only [reduceIte, Nat.reduceEqDiff, Nat.reduceAdd, B3, g0] <;> rfl) ?_))
  refine WRun.skip ?_
  (first | refine WRun.seq (WRun.region ?_) | refine WRun.seq (WRun.seq (WRun.region ?_)) | refine WRun.region ?_ | refine WRun.seq (WRun.seq (WRun.seq (WRun.region ?_)))); ((repeat (first | refine WOps.a rfl (by simp only [reduceIte, Nat.reduceEqDiff, Nat.reduceAdd, B2, g0, l0] <;> rfl) ?_ | refine WOps.b rfl rfl rfl (by simp only [reduceIte, Nat.reduceEqDiff, Nat.reduceAdd, B2, g0, l0] <;> rfl) ?_)); refine WOps.nil ?_)
  refine (show WRun Tryz.ctx S 7 Tryz.f7.ntmps none _ _ _ _ _ from ?_)
  refine WRun.block ?_
  (first | refine WRun.seq (WRun.region ?_) | refine WRun.seq (WRun.seq (WRun.region ?_)) | refine WRun.region ?_ | refine WRun.seq (WRun.seq (WRun.seq (WRun.region ?_)))); ((repeat (first | refine WOps.a rfl (by simp only [reduceIte, Nat.reduceEqDiff, Nat.reduceAdd, B3, g0] <;> rfl) ?_ | refine WOps.b rfl rfl rfl (by simp only [reduceIte, Nat.reduceEqDiff, Nat.reduceAdd, B3, g0] <;> rfl) ?_)); refine WOps.nil ?_)
  (first | refine WRun.condF (by simp only [reduceIte, Nat.reduceEqDiff, Nat.reduceAdd, B3, g0] <;> rfl) ?_ | refine WRun.seq (WRun.condF (by simp only [reduceIte, Nat.reduceEqDiff, Nat.reduceAdd, B3, g0] <;> rfl) ?_))
  (first | refine WRun.seq (WRun.region ?_) | refine WRun.seq (WRun.seq (WRun.region ?_)) | refine WRun.region ?_ | refine WRun.seq (WRun.seq (WRun.seq (WRun.region ?_)))); ((repeat (first | refine WOps.a rfl (by simp only [reduceIte, Nat.reduceEqDiff, Nat.reduceAdd, B3, g0] <;> rfl) ?_ | refine WOps.b rfl rfl rfl (by simp only [reduceIte, Nat.reduceEqDiff, Nat.reduceAdd, B3, g0] <;> rfl) ?_)); refine WOps.nil ?_)
  (first | refine WRun.condT (by simp only [reduceIte, Nat.reduceEqDiff, Nat.reduceAdd, B3, g0] <;> rfl) ?_ | refine WRun.seq (WRun.condT (by simp only [reduceIte, Nat.reduceEqDiff, Nat.reduceAdd, B3, g0] <;> rfl) ?_))
  refine WRun.seq (WRun.region ?_)
  iterate 2 (first | refine WOps.a rfl (by simp only [reduceIte, Nat.reduceEqDiff, Nat.reduceAdd, B2, g0, l2] <;> rfl) ?_ | refine WOps.vG ((guard_bool rfl rfl (by simp only [reduceIte, Nat.reduceEqDiff, Nat.reduceAdd, B2, g0, l2] <;> rfl)).trans rfl) (by simp only [reduceIte, Nat.reduceEqDiff, Nat.reduceAdd, B2, g0, l2] <;> rfl) rfl ?_ | refine WOps.nG (by first | exact (guard_bool rfl rfl (by simp only [reduceIte, Nat.reduceEqDiff, Nat.reduceAdd, B2, g0, l2] <;> rfl)).trans rfl | exact guard_not rfl rfl (by simp only [reduceIte, Nat.reduceEqDiff, Nat.reduceAdd, B2, g0, l2] <;> rfl)) rfl ?_)
  refine WOps.cN (op_call1 (v := .agg [tv]) (by simp only [reduceIte, Nat.reduceEqDiff, Nat.reduceAdd, B3, g0] <;> rfl) Tryz.fn19 Tryz.ex19) (Tryz.c19 G.s19 G.s41 G.s42 G.s43 hO.lowN (q.tab.mono hO.ext) (by have := q.tl; omega) (bb := true) (by simp [vt])) rfl ?_
  ((repeat (first | refine WOps.a rfl (by simp only [reduceIte, Nat.reduceEqDiff, Nat.reduceAdd, B3, g0] <;> rfl) ?_ | refine WOps.b rfl rfl rfl (by simp only [reduceIte, Nat.reduceEqDiff, Nat.reduceAdd, B3, g0] <;> rfl) ?_)); refine WOps.nil ?_)
  exact WRun.ret ⟨trivial, rfl, hO.log, (by simp only [reduceIte, Nat.reduceEqDiff, Nat.reduceAdd, B3, g0] <;> rfl)⟩
theorem Tryz.c7_5 {S : Summ} (hS7 : S.get 7 = none) (G : Gets S) {h : AH} (low : ∀ b x, h.t.get b = some x → b < h.next) {m : Int} {tv cv : AV} {t : List (List Int)} {R : Nat → AV} {l : List Int} (q : PrV h m tv cv t R l) (v : t = [] ∧ 1 ≤ m ∧ m ≤ 5 ∧ isTypeB m m l = true) :
    RunCall Tryz.ctx S 7 [.agg [.int .i64 5, .int .i64 m, tv, cv]] h ⟨.bool true, h⟩ := by
  refine WRun.calls1 (r := 2) hS7 Tryz.fn7 rfl rfl rfl rfl ?_
  have hO := (Mine.start low).add (.cells [.int .i64 5, .int .i64 m, tv, cv] 0)
  have hb : ((⟨h.t, h.next, h.next, []⟩ : AH).add (.cells [.int .i64 5, .int .i64 m, tv, cv] 0)).t.get h.next = some (.cells [.int .i64 5, .int .i64 m, tv, cv] 0) := get_add_self
  have g0 : (argsT [.agg [.int .i64 5, .int .i64 m, tv, cv]] 0 .leaf).get 0 = some (.agg [.int .i64 5, .int .i64 m, tv, cv]) := rfl
  generalize argsT [.agg [.int .i64 5, .int .i64 m, tv, cv]] 0 .leaf = T at g0
  (first | refine WRun.seq (WRun.region ?_) | refine WRun.seq (WRun.seq (WRun.region ?_)) | refine WRun.region ?_ | refine WRun.seq (WRun.seq (WRun.seq (WRun.region ?_)))); ((repeat (first | refine WOps.a rfl (by simp only [reduceIte, Nat.reduceEqDiff, Nat.reduceAdd, B3, g0] <;> rfl) ?_ | refine WOps.b rfl rfl rfl (by simp only [reduceIte, Nat.reduceEqDiff, Nat.reduceAdd, B3, g0] <;> rfl) ?_)); refine WOps.nil ?_)
  generalize ((⟨h.t, h.next, h.next, []⟩ : AH).add (.cells [.int .i64 5, .int .i64 m, tv, cv] 0)) = H at hO hb
  have l0 : evLoad Tryz.y3 (.ptr h.next 0) H = .val (.int .i64 5) H := load_word rfl hb rfl
  have l1 : evLoad Tryz.y3 (.ptr h.next 1) H = .val (.int .i64 m) H := load_word rfl hb rfl
  have l2 : evLoad Tryz.y24 (.ptr h.next 2) H = .val (.agg [tv]) H := by rw [load_ptr, hb]; rfl
  have l2' : evLoad Tryz.y22 (.ptr h.next 2) H = .val tv H := load_word rfl hb rfl
  have l3 : evLoad Tryz.y25 (.ptr h.next 3) H = .val cv H := load_word rfl hb rfl
  have ql := q.tab.len
  have rl := (q.row).len
  have z1 : ((([] : List Int).length : Nat) : Int) = 0 := rfl
  have z2 : ((([] : List (List Int)).length : Nat) : Int) = 0 := rfl
  have z0 : decide ((0 : Int) < 0) = false := rfl
  have nz : decide ((0 : Int) = 0) = true := rfl
  obtain ⟨rfl, m1, m5, vt⟩ := v
  obtain ⟨q1, q2, q3⟩ := isTypeB_spec vt
  have e1 : decide (1 ≤ m) = true := by simpa using m1
  have e2 : decide (m ≤ 5) = true := by simpa using m5
  (first | refine WRun.seq (WRun.region ?_) | refine WRun.seq (WRun.seq (WRun.region ?_)) | refine WRun.region ?_ | refine WRun.seq (WRun.seq (WRun.seq (WRun.region ?_)))); ((repeat (first | refine WOps.a rfl (by simp only [reduceIte, Nat.reduceEqDiff, Nat.reduceAdd, B2, g0, l0] <;> rfl) ?_ | refine WOps.b rfl rfl rfl (by simp only [reduceIte, Nat.reduceEqDiff, Nat.reduceAdd, B2, g0, l0] <;> rfl) ?_)); refine WOps.nil ?_)
  (first | refine WRun.seq (WRun.region ?_) | refine WRun.seq (WRun.seq (WRun.region ?_)) | refine WRun.region ?_ | refine WRun.seq (WRun.seq (WRun.seq (WRun.region ?_)))); ((repeat (first | refine WOps.a rfl (by simp only [reduceIte, Nat.reduceEqDiff, Nat.reduceAdd, B2, g0, l0, l1, l2', l3, ql, rl, z2, z0, nz] <;> rfl) ?_ | refine WOps.b rfl rfl rfl (by simp only [reduceIte, Nat.reduceEqDiff, Nat.reduceAdd, B2, g0, l0, l1, l2', l3, ql, rl, z2, z0, nz] <;> rfl) ?_)); refine WOps.nil ?_)
  (first | refine WRun.condF (by simp only [reduceIte, Nat.reduceEqDiff, Nat.reduceAdd, B3, g0] <;> rfl) ?_ | refine WRun.seq (WRun.condF (by simp only [reduceIte, Nat.reduceEqDiff, Nat.reduceAdd, B3, g0] <;> rfl) ?_))
  refine WRun.skip ?_
  (first | refine WRun.seq (WRun.region ?_) | refine WRun.seq (WRun.seq (WRun.region ?_)) | refine WRun.region ?_ | refine WRun.seq (WRun.seq (WRun.seq (WRun.region ?_)))); ((repeat (first | refine WOps.a rfl (by simp only [reduceIte, Nat.reduceEqDiff, Nat.reduceAdd, B2, g0, l0] <;> rfl) ?_ | refine WOps.b rfl rfl rfl (by simp only [reduceIte, Nat.reduceEqDiff, Nat.reduceAdd, B2, g0, l0] <;> rfl) ?_)); refine WOps.nil ?_)
  refine (show WRun Tryz.ctx S 7 Tryz.f7.ntmps none _ _ _ _ _ from ?_)
  refine WRun.block ?_
  (first | refine WRun.seq (WRun.region ?_) | refine WRun.seq (WRun.seq (WRun.region ?_)) | refine WRun.region ?_ | refine WRun.seq (WRun.seq (WRun.seq (WRun.region ?_)))); ((repeat (first | refine WOps.a rfl (by simp only [reduceIte, Nat.reduceEqDiff, Nat.reduceAdd, B3, g0] <;> rfl) ?_ | refine WOps.b rfl rfl rfl (by simp only [reduceIte, Nat.reduceEqDiff, Nat.reduceAdd, B3, g0] <;> rfl) ?_)); refine WOps.nil ?_)
  (first | refine WRun.condF (by simp only [reduceIte, Nat.reduceEqDiff, Nat.reduceAdd, B3, g0] <;> rfl) ?_ | refine WRun.seq (WRun.condF (by simp only [reduceIte, Nat.reduceEqDiff, Nat.reduceAdd, B3, g0] <;> rfl) ?_))
  (first | refine WRun.seq (WRun.region ?_) | refine WRun.seq (WRun.seq (WRun.region ?_)) | refine WRun.region ?_ | refine WRun.seq (WRun.seq (WRun.seq (WRun.region ?_)))); ((repeat (first | refine WOps.a rfl (by simp only [reduceIte, Nat.reduceEqDiff, Nat.reduceAdd, B3, g0] <;> rfl) ?_ | refine WOps.b rfl rfl rfl (by simp only [reduceIte, Nat.reduceEqDiff, Nat.reduceAdd, B3, g0] <;> rfl) ?_)); refine WOps.nil ?_)
  (first | refine WRun.condF (by simp only [reduceIte, Nat.reduceEqDiff, Nat.reduceAdd, B3, g0] <;> rfl) ?_ | refine WRun.seq (WRun.condF (by simp only [reduceIte, Nat.reduceEqDiff, Nat.reduceAdd, B3, g0] <;> rfl) ?_))
  (first | refine WRun.seq (WRun.region ?_) | refine WRun.seq (WRun.seq (WRun.region ?_)) | refine WRun.region ?_ | refine WRun.seq (WRun.seq (WRun.seq (WRun.region ?_)))); ((repeat (first | refine WOps.a rfl (by simp only [reduceIte, Nat.reduceEqDiff, Nat.reduceAdd, B3, g0] <;> rfl) ?_ | refine WOps.b rfl rfl rfl (by simp only [reduceIte, Nat.reduceEqDiff, Nat.reduceAdd, B3, g0] <;> rfl) ?_)); refine WOps.nil ?_)
  (first | refine WRun.condT (by simp only [reduceIte, Nat.reduceEqDiff, Nat.reduceAdd, B3, g0] <;> rfl) ?_ | refine WRun.seq (WRun.condT (by simp only [reduceIte, Nat.reduceEqDiff, Nat.reduceAdd, B3, g0] <;> rfl) ?_))
  (first | refine WRun.seq (WRun.region ?_) | refine WRun.seq (WRun.seq (WRun.region ?_)) | refine WRun.region ?_ | refine WRun.seq (WRun.seq (WRun.seq (WRun.region ?_)))); ((repeat (first | refine WOps.a rfl (by simp only [reduceIte, Nat.reduceEqDiff, Nat.reduceAdd, B3, g0] <;> rfl) ?_ | refine WOps.b rfl rfl rfl (by simp only [reduceIte, Nat.reduceEqDiff, Nat.reduceAdd, B3, g0] <;> rfl) ?_)); refine WOps.nil ?_)
  (first | refine WRun.seq (WRun.region ?_) | refine WRun.seq (WRun.seq (WRun.region ?_)) | refine WRun.region ?_ | refine WRun.seq (WRun.seq (WRun.seq (WRun.region ?_)))); ((repeat (first | refine WOps.a rfl (by simp only [reduceIte, Nat.reduceEqDiff, Nat.reduceAdd, B2, g0, l3, rl] <;> rfl) ?_ | refine WOps.b rfl rfl rfl (by simp only [reduceIte, Nat.reduceEqDiff, Nat.reduceAdd, B2, g0, l3, rl] <;> rfl) ?_)); refine WOps.nil ?_)
  refine (show WRun Tryz.ctx S 7 Tryz.f7.ntmps none _ _ _ _ _ from ?_)
  refine WRun.block ?_
  refine WRun.loop (I := fun mm T h' => ∃ x : Nat, mm + x = l.length ∧ H = h' ∧ T.get 1 = some (.ptr h.next 0) ∧ T.get 4 = some (.int .i64 (l.take x).sum) ∧ T.get 75 = some cv ∧ T.get 76 = some (.int .i64 l.length) ∧ T.get 77 = some (.int .i64 x)) (m := l.length) ?_
    ⟨0, by omega, rfl, (by simp only [reduceIte, Nat.reduceEqDiff, Nat.reduceAdd, B3, g0] <;> rfl), (by simp only [reduceIte, Nat.reduceEqDiff, Nat.reduceAdd, B3, g0] <;> rfl), (by simp only [reduceIte, Nat.reduceEqDiff, Nat.reduceAdd, B3, g0] <;> rfl), (by simp only [reduceIte, Nat.reduceEqDiff, Nat.reduceAdd, B3, g0] <;> rfl), (by simp only [reduceIte, Nat.reduceEqDiff, Nat.reduceAdd, B3, g0] <;> rfl)⟩
  clear g0
  rintro mm T _ ⟨x, hm, rfl, t1, t4, t75, t76, t77⟩
  by_cases hx : x < l.length
  · have hlt : ((x : Int) < (l.length : Int)) = True := by simp; exact hx
    have hll := q.ll
    have ad := add1 x (by omega)
    obtain ⟨c, hc⟩ : ∃ c, l[x]? = some c := ⟨_, List.getElem?_eq_getElem hx⟩
    obtain ⟨c1, c2⟩ := q1 x c hc
    have sb := sum_take_bounds (fun i c hc => (q1 i c hc).1) x
    have ss := sum_take_succ hc
    have rT := q.row
    obtain ⟨bb, o, a1, ld⟩ := rT.ent x c hc H hO.ext
    have i1 : decide (c < 1) = false := by simp; omega
    have i2 : decide ((10 : Int) < c) = false := by simp; omega
    have sa : ∀ (ty : TypeId) (b : Bool), binV Tryz.ctx.ty .add ty b (.int .i64 (l.take x).sum) (.int .i64 c) = some (.int .i64 (l.take (x + 1)).sum) := fun ty b => by rw [bin_add (by omega) (by omega), ss]
    (first | refine WRun.seq (WRun.region ?_) | refine WRun.seq (WRun.seq (WRun.region ?_)) | refine WRun.region ?_ | refine WRun.seq (WRun.seq (WRun.seq (WRun.region ?_)))); ((repeat (first | refine WOps.a rfl (by simp only [reduceIte, Nat.reduceEqDiff, Nat.reduceAdd, B3, t76, t77, hlt] <;> rfl) ?_ | refine WOps.b rfl rfl rfl (by simp only [reduceIte, Nat.reduceEqDiff, Nat.reduceAdd, B3, t76, t77, hlt] <;> rfl) ?_)); refine WOps.nil ?_)
    (first | refine WRun.condT (by simp only [reduceIte, Nat.reduceEqDiff, Nat.reduceAdd, B3, hlt] <;> rfl) ?_ | refine WRun.seq (WRun.condT (by simp only [reduceIte, Nat.reduceEqDiff, Nat.reduceAdd, B3, hlt] <;> rfl) ?_))
    refine WRun.skip ?_
    refine WRun.seq (WRun.block ?_)
    (first | refine WRun.seq (WRun.region ?_) | refine WRun.seq (WRun.seq (WRun.region ?_)) | refine WRun.region ?_ | refine WRun.seq (WRun.seq (WRun.seq (WRun.region ?_)))); ((repeat (first | refine WOps.a rfl (by simp only [reduceIte, Nat.reduceEqDiff, Nat.reduceAdd, B2, t75, t77, a1, ld] <;> rfl) ?_ | refine WOps.b rfl rfl rfl (by simp only [reduceIte, Nat.reduceEqDiff, Nat.reduceAdd, B2, t75, t77, a1, ld] <;> rfl) ?_)); refine WOps.nil ?_)
    by_cases hx0 : x = 0
    · subst hx0
      have i3 : decide ((0 : Int) < ((0 : Nat) : Int)) = false := rfl
      (first | refine WRun.seq (WRun.region ?_) | refine WRun.seq (WRun.seq (WRun.region ?_)) | refine WRun.region ?_ | refine WRun.seq (WRun.seq (WRun.seq (WRun.region ?_)))); ((repeat (first | refine WOps.a rfl (by simp only [reduceIte, Nat.reduceEqDiff, Nat.reduceAdd, B3, t77, i1, i2, i3] <;> rfl) ?_ | refine WOps.b rfl rfl rfl (by simp only [reduceIte, Nat.reduceEqDiff, Nat.reduceAdd, B3, t77, i1, i2, i3] <;> rfl) ?_)); refine WOps.nil ?_)
      (first | refine WRun.condF (by simp only [reduceIte, Nat.reduceEqDiff, Nat.reduceAdd, B3, t77] <;> rfl) ?_ | refine WRun.seq (WRun.condF (by simp only [reduceIte, Nat.reduceEqDiff, Nat.reduceAdd, B3, t77] <;> rfl) ?_))
      refine WRun.skip ?_
      (first | refine WRun.seq (WRun.region ?_) | refine WRun.seq (WRun.seq (WRun.region ?_)) | refine WRun.region ?_ | refine WRun.seq (WRun.seq (WRun.seq (WRun.region ?_)))); ((repeat (first | refine WOps.a rfl (by simp only [reduceIte, Nat.reduceEqDiff, Nat.reduceAdd, B3, t4, sa] <;> rfl) ?_ | refine WOps.b rfl rfl rfl (by simp only [reduceIte, Nat.reduceEqDiff, Nat.reduceAdd, B3, t4, sa] <;> rfl) ?_)); refine WOps.nil ?_)
      (first | refine WRun.seq (WRun.region ?_) | refine WRun.seq (WRun.seq (WRun.region ?_)) | refine WRun.region ?_ | refine WRun.seq (WRun.seq (WRun.seq (WRun.region ?_)))); ((repeat (first | refine WOps.a rfl (by simp only [reduceIte, Nat.reduceEqDiff, Nat.reduceAdd, B3, t77, ad] <;> rfl) ?_ | refine WOps.b rfl rfl rfl (by simp only [reduceIte, Nat.reduceEqDiff, Nat.reduceAdd, B3, t77, ad] <;> rfl) ?_)); refine WOps.nil ?_)
      exact ⟨rfl, mm - 1, by omega, 1, by omega, rfl, (by simp only [reduceIte, Nat.reduceEqDiff, Nat.reduceAdd, B3, t1] <;> rfl), (by simp only [reduceIte, Nat.reduceEqDiff, Nat.reduceAdd, B3, t4] <;> rfl), (by simp only [reduceIte, Nat.reduceEqDiff, Nat.reduceAdd, B3, t75] <;> rfl), (by simp only [reduceIte, Nat.reduceEqDiff, Nat.reduceAdd, B3, t76] <;> rfl), (by simp only [reduceIte, Nat.reduceEqDiff, Nat.reduceAdd, B3, t77] <;> rfl)⟩
    · have i3 : decide ((0 : Int) < (x : Int)) = true := by simp; omega
      obtain ⟨y, hy⟩ : ∃ y : Nat, x = y + 1 := ⟨x - 1, by omega⟩
      obtain ⟨d, hd⟩ : ∃ d, l[y]? = some d := ⟨_, List.getElem?_eq_getElem (by omega)⟩
      have hdc := q2 y d c hd (by rw [← hy]; exact hc)
      obtain ⟨b2, o2, a2, ld2⟩ := rT.ent y d hd H hO.ext
      have su : ∀ (ty : TypeId) (b : Bool), binV Tryz.ctx.ty .sub ty b (.int .i64 (x : Int)) (.int .i64 1) = some (.int .i64 (y : Int)) := fun ty b => by rw [bin_sub (by omega) (by omega)]; congr 2; omega
      have i4 : decide (d < c) = false := by simp; omega
      (first | refine WRun.seq (WRun.region ?_) | refine WRun.seq (WRun.seq (WRun.region ?_)) | refine WRun.region ?_ | refine WRun.seq (WRun.seq (WRun.seq (WRun.region ?_)))); ((repeat (first | refine WOps.a rfl (by simp only [reduceIte, Nat.reduceEqDiff, Nat.reduceAdd, B2, t1, t77, i1, i2, i3, l3, su, a2, ld2, i4] <;> rfl) ?_ | refine WOps.b rfl rfl rfl (by simp only [reduceIte, Nat.reduceEqDiff, Nat.reduceAdd, B2, t1, t77, i1, i2, i3, l3, su, a2, ld2, i4] <;> rfl) ?_)); refine WOps.nil ?_)
      (first | refine WRun.condF (by simp only [reduceIte, Nat.reduceEqDiff, Nat.reduceAdd, B3, t77] <;> rfl) ?_ | refine WRun.seq (WRun.condF (by simp only [reduceIte, Nat.reduceEqDiff, Nat.reduceAdd, B3, t77] <;> rfl) ?_))
      refine WRun.skip ?_
      (first | refine WRun.seq (WRun.region ?_) | refine WRun.seq (WRun.seq (WRun.region ?_)) | refine WRun.region ?_ | refine WRun.seq (WRun.seq (WRun.seq (WRun.region ?_)))); ((repeat (first | refine WOps.a rfl (by simp only [reduceIte, Nat.reduceEqDiff, Nat.reduceAdd, B3, t4, sa] <;> rfl) ?_ | refine WOps.b rfl rfl rfl (by simp only [reduceIte, Nat.reduceEqDiff, Nat.reduceAdd, B3, t4, sa] <;> rfl) ?_)); refine WOps.nil ?_)
      (first | refine WRun.seq (WRun.region ?_) | refine WRun.seq (WRun.seq (WRun.region ?_)) | refine WRun.region ?_ | refine WRun.seq (WRun.seq (WRun.seq (WRun.region ?_)))); ((repeat (first | refine WOps.a rfl (by simp only [reduceIte, Nat.reduceEqDiff, Nat.reduceAdd, B3, t77, ad] <;> rfl) ?_ | refine WOps.b rfl rfl rfl (by simp only [reduceIte, Nat.reduceEqDiff, Nat.reduceAdd, B3, t77, ad] <;> rfl) ?_)); refine WOps.nil ?_)
      exact ⟨rfl, mm - 1, by omega, x + 1, by omega, rfl, (by simp only [reduceIte, Nat.reduceEqDiff, Nat.reduceAdd, B3, t1] <;> rfl), (by simp only [reduceIte, Nat.reduceEqDiff, Nat.reduceAdd, B3, t4] <;> rfl), (by simp only [reduceIte, Nat.reduceEqDiff, Nat.reduceAdd, B3, t75] <;> rfl), (by simp only [reduceIte, Nat.reduceEqDiff, Nat.reduceAdd, B3, t76] <;> rfl), (by simp only [reduceIte, Nat.reduceEqDiff, Nat.reduceAdd, B3, t77] <;> rfl)⟩
  · have hlt : ((x : Int) < (l.length : Int)) = False := by simp; omega
    have hs : (l.take x).sum = m := by rw [List.take_of_length_le (by omega), q3]
    have e3 : decide (m = m) = true := by simp
    rw [hs] at t4
    (first | refine WRun.seq (WRun.region ?_) | refine WRun.seq (WRun.seq (WRun.region ?_)) | refine WRun.region ?_ | refine WRun.seq (WRun.seq (WRun.seq (WRun.region ?_)))); ((repeat (first | refine WOps.a rfl (by simp only [reduceIte, Nat.reduceEqDiff, Nat.reduceAdd, B3, t76, t77, hlt] <;> rfl) ?_ | refine WOps.b rfl rfl rfl (by simp only [reduceIte, Nat.reduceEqDiff, Nat.reduceAdd, B3, t76, t77, hlt] <;> rfl) ?_)); refine WOps.nil ?_)
    (first | refine WRun.condF (by simp only [reduceIte, Nat.reduceEqDiff, Nat.reduceAdd, B3, hlt] <;> rfl) ?_ | refine WRun.seq (WRun.condF (by simp only [reduceIte, Nat.reduceEqDiff, Nat.reduceAdd, B3, hlt] <;> rfl) ?_))
    refine WRun.exit ?_
    (first | refine WRun.seq (WRun.region ?_) | refine WRun.seq (WRun.seq (WRun.region ?_)) | refine WRun.region ?_ | refine WRun.seq (WRun.seq (WRun.seq (WRun.region ?_)))); ((repeat (first | refine WOps.a rfl (by simp only [reduceIte, Nat.reduceEqDiff, Nat.reduceAdd, B2, t1, t4, l1, e1, e2, e3] <;> rfl) ?_ | refine WOps.b rfl rfl rfl (by simp only [reduceIte, Nat.reduceEqDiff, Nat.reduceAdd, B2, t1, t4, l1, e1, e2, e3] <;> rfl) ?_)); refine WOps.nil ?_)
    exact WRun.ret ⟨trivial, rfl, hO.log, (by simp only [reduceIte, Nat.reduceEqDiff, Nat.reduceAdd, B3, t1] <;> rfl)⟩
theorem Tryz.c7_o {S : Summ} (hS7 : S.get 7 = none) (G : Gets S) {h : AH} (low : ∀ b x, h.t.get b = some x → b < h.next) {k m : Int} {tv cv : AV} {t : List (List Int)} {R : Nat → AV} {l : List Int} (q : PrV h m tv cv t R l) (h3 : k ≠ 3) (h4 : k ≠ 4) (h5 : k ≠ 5) (v : t = [] ∧ m = 0 ∧ l = [] ∧ 1 ≤ k ∧ k ≤ 9) :
    RunCall Tryz.ctx S 7 [.agg [.int .i64 k, .int .i64 m, tv, cv]] h ⟨.bool true, h⟩ := by
  refine WRun.calls1 (r := 2) hS7 Tryz.fn7 rfl rfl rfl rfl ?_
  have hO := (Mine.start low).add (.cells [.int .i64 k, .int .i64 m, tv, cv] 0)
  have hb : ((⟨h.t, h.next, h.next, []⟩ : AH).add (.cells [.int .i64 k, .int .i64 m, tv, cv] 0)).t.get h.next = some (.cells [.int .i64 k, .int .i64 m, tv, cv] 0) := get_add_self
  have g0 : (argsT [.agg [.int .i64 k, .int .i64 m, tv, cv]] 0 .leaf).get 0 = some (.agg [.int .i64 k, .int .i64 m, tv, cv]) := rfl
  generalize argsT [.agg [.int .i64 k, .int .i64 m, tv, cv]] 0 .leaf = T at g0
  (first | refine WRun.seq (WRun.region ?_) | refine WRun.seq (WRun.seq (WRun.region ?_)) | refine WRun.region ?_ | refine WRun.seq (WRun.seq (WRun.seq (WRun.region ?_)))); ((repeat (first | refine WOps.a rfl (by simp only [reduceIte, Nat.reduceEqDiff, Nat.reduceAdd, B3, g0] <;> rfl) ?_ | refine WOps.b rfl rfl rfl (by simp only [reduceIte, Nat.reduceEqDiff, Nat.reduceAdd, B3, g0] <;> rfl) ?_)); refine WOps.nil ?_)
  generalize ((⟨h.t, h.next, h.next, []⟩ : AH).add (.cells [.int .i64 k, .int .i64 m, tv, cv] 0)) = H at hO hb
  have l0 : evLoad Tryz.y3 (.ptr h.next 0) H = .val (.int .i64 k) H := load_word rfl hb rfl
  have l1 : evLoad Tryz.y3 (.ptr h.next 1) H = .val (.int .i64 m) H := load_word rfl hb rfl
  have l2 : evLoad Tryz.y24 (.ptr h.next 2) H = .val (.agg [tv]) H := by rw [load_ptr, hb]; rfl
  have l2' : evLoad Tryz.y22 (.ptr h.next 2) H = .val tv H := load_word rfl hb rfl
  have l3 : evLoad Tryz.y25 (.ptr h.next 3) H = .val cv H := load_word rfl hb rfl
  have ql := q.tab.len
  have rl := (q.row).len
  have d1 : decide (k < 1) = false := by have := v.2.2.2.1; simp; omega
  have d9 : decide ((9 : Int) < k) = false := by have := v.2.2.2.2; simp; omega
  have k1 := v.2.2.2.1
  have k9 := v.2.2.2.2
  have f3 : decide (k = 3) = false := by simpa using h3
  have f4 : decide (k = 4) = false := by simpa using h4
  have f5 : decide (k = 5) = false := by simpa using h5
  have z1 : ((([] : List Int).length : Nat) : Int) = 0 := rfl
  have z2 : ((([] : List (List Int)).length : Nat) : Int) = 0 := rfl
  have z0 : decide ((0 : Int) < 0) = false := rfl
  have nz : decide ((0 : Int) = 0) = true := rfl
  obtain ⟨rfl, rfl, rfl, _, _⟩ := v
  (first | refine WRun.seq (WRun.region ?_) | refine WRun.seq (WRun.seq (WRun.region ?_)) | refine WRun.region ?_ | refine WRun.seq (WRun.seq (WRun.seq (WRun.region ?_)))); ((repeat (first | refine WOps.a rfl (by simp only [reduceIte, Nat.reduceEqDiff, Nat.reduceAdd, B2, g0, l0, f3, f5] <;> rfl) ?_ | refine WOps.b rfl rfl rfl (by simp only [reduceIte, Nat.reduceEqDiff, Nat.reduceAdd, B2, g0, l0, f3, f5] <;> rfl) ?_)); refine WOps.nil ?_)
  (first | refine WRun.seq (WRun.region ?_) | refine WRun.seq (WRun.seq (WRun.region ?_)) | refine WRun.region ?_ | refine WRun.seq (WRun.seq (WRun.seq (WRun.region ?_)))); ((repeat (first | refine WOps.a rfl (by simp only [reduceIte, Nat.reduceEqDiff, Nat.reduceAdd, B2, g0, l0, l1, l2', l3, ql, rl, z1, z2, z0, nz, d1, d9, f4, f5] <;> rfl) ?_ | refine WOps.b rfl rfl rfl (by simp only [reduceIte, Nat.reduceEqDiff, Nat.reduceAdd, B2, g0, l0, l1, l2', l3, ql, rl, z1, z2, z0, nz, d1, d9, f4, f5] <;> rfl) ?_)); refine WOps.nil ?_)
  (first | refine WRun.condF (by simp only [reduceIte, Nat.reduceEqDiff, Nat.reduceAdd, B3, g0] <;> rfl) ?_ | refine WRun.seq (WRun.condF (by simp only [reduceIte, Nat.reduceEqDiff, Nat.reduceAdd, B3, g0] <;> rfl) ?_))
  refine WRun.skip ?_
  (first | refine WRun.seq (WRun.region ?_) | refine WRun.seq (WRun.seq (WRun.region ?_)) | refine WRun.region ?_ | refine WRun.seq (WRun.seq (WRun.seq (WRun.region ?_)))); ((repeat (first | refine WOps.a rfl (by simp only [reduceIte, Nat.reduceEqDiff, Nat.reduceAdd, B2, g0, l0] <;> rfl) ?_ | refine WOps.b rfl rfl rfl (by simp only [reduceIte, Nat.reduceEqDiff, Nat.reduceAdd, B2, g0, l0] <;> rfl) ?_)); refine WOps.nil ?_)
  refine (show WRun Tryz.ctx S 7 Tryz.f7.ntmps none _ _ _ _ _ from ?_)
  refine WRun.block ?_
  (first | refine WRun.seq (WRun.region ?_) | refine WRun.seq (WRun.seq (WRun.region ?_)) | refine WRun.region ?_ | refine WRun.seq (WRun.seq (WRun.seq (WRun.region ?_)))); ((repeat (first | refine WOps.a rfl (by simp only [reduceIte, Nat.reduceEqDiff, Nat.reduceAdd, B3, g0, f3] <;> rfl) ?_ | refine WOps.b rfl rfl rfl (by simp only [reduceIte, Nat.reduceEqDiff, Nat.reduceAdd, B3, g0, f3] <;> rfl) ?_)); refine WOps.nil ?_)
  (first | refine WRun.condF (by simp only [reduceIte, Nat.reduceEqDiff, Nat.reduceAdd, B3, f3] <;> rfl) ?_ | refine WRun.seq (WRun.condF (by simp only [reduceIte, Nat.reduceEqDiff, Nat.reduceAdd, B3, f3] <;> rfl) ?_))
  (first | refine WRun.seq (WRun.region ?_) | refine WRun.seq (WRun.seq (WRun.region ?_)) | refine WRun.region ?_ | refine WRun.seq (WRun.seq (WRun.seq (WRun.region ?_)))); ((repeat (first | refine WOps.a rfl (by simp only [reduceIte, Nat.reduceEqDiff, Nat.reduceAdd, B3, g0, f4] <;> rfl) ?_ | refine WOps.b rfl rfl rfl (by simp only [reduceIte, Nat.reduceEqDiff, Nat.reduceAdd, B3, g0, f4] <;> rfl) ?_)); refine WOps.nil ?_)
  (first | refine WRun.condF (by simp only [reduceIte, Nat.reduceEqDiff, Nat.reduceAdd, B3, f4] <;> rfl) ?_ | refine WRun.seq (WRun.condF (by simp only [reduceIte, Nat.reduceEqDiff, Nat.reduceAdd, B3, f4] <;> rfl) ?_))
  (first | refine WRun.seq (WRun.region ?_) | refine WRun.seq (WRun.seq (WRun.region ?_)) | refine WRun.region ?_ | refine WRun.seq (WRun.seq (WRun.seq (WRun.region ?_)))); ((repeat (first | refine WOps.a rfl (by simp only [reduceIte, Nat.reduceEqDiff, Nat.reduceAdd, B3, g0, f5] <;> rfl) ?_ | refine WOps.b rfl rfl rfl (by simp only [reduceIte, Nat.reduceEqDiff, Nat.reduceAdd, B3, g0, f5] <;> rfl) ?_)); refine WOps.nil ?_)
  (first | refine WRun.condF (by simp only [reduceIte, Nat.reduceEqDiff, Nat.reduceAdd, B3, f5] <;> rfl) ?_ | refine WRun.seq (WRun.condF (by simp only [reduceIte, Nat.reduceEqDiff, Nat.reduceAdd, B3, f5] <;> rfl) ?_))
  refine WRun.skip ?_
  (first | refine WRun.seq (WRun.region ?_) | refine WRun.seq (WRun.seq (WRun.region ?_)) | refine WRun.region ?_ | refine WRun.seq (WRun.seq (WRun.seq (WRun.region ?_)))); ((repeat (first | refine WOps.a rfl (by simp only [reduceIte, Nat.reduceEqDiff, Nat.reduceAdd, B3, g0] <;> rfl) ?_ | refine WOps.b rfl rfl rfl (by simp only [reduceIte, Nat.reduceEqDiff, Nat.reduceAdd, B3, g0] <;> rfl) ?_)); refine WOps.nil ?_)
  exact WRun.ret ⟨trivial, rfl, hO.log, (by simp only [reduceIte, Nat.reduceEqDiff, Nat.reduceAdd, B3, g0] <;> rfl)⟩
theorem Tryz.c7t {S : Summ} (hS7 : S.get 7 = none) (G : Gets S) {h : AH} (low : ∀ b x, h.t.get b = some x → b < h.next) {k m : Int} {tv cv : AV} {t : List (List Int)} {R : Nat → AV} {l : List Int} (q : PrV h m tv cv t R l) (v : VP k m t l) :
    RunCall Tryz.ctx S 7 [.agg [.int .i64 k, .int .i64 m, tv, cv]] h ⟨.bool true, h⟩ := by
  unfold VP at v
  by_cases h3 : k = 3
  · subst h3; rw [if_pos rfl] at v; exact Tryz.c7_3 hS7 G low q v
  rw [if_neg h3] at v
  by_cases h4 : k = 4
  · subst h4; rw [if_pos rfl] at v; exact Tryz.c7_4 hS7 G low q v
  rw [if_neg h4] at v
  by_cases h5 : k = 5
  · subst h5; rw [if_pos rfl] at v; exact Tryz.c7_5 hS7 G low q v
  rw [if_neg h5] at v
  exact Tryz.c7_o hS7 G low q h3 h4 h5 v
end Go.Proofs
