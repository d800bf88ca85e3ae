/- Part of the proof. -/
import Derived.Test.YtggkgmmhblamfaaGreatDoorTWH
set_option linter.all false
namespace Go.Proofs
open Go.Ev
set_option maxRecDepth 100000
set_option maxHeartbeats 4000000
/-- What the law's valid looks at first. -/
def HeadBad (k m : Int) (t : List (List Int)) (l : List Int) : Prop := k < 1 ∨ 9 < k ∨ (k ≠ 3 ∧ k ≠ 5 ∧ m ≠ 0) ∨ (k ≠ 5 ∧ l ≠ []) ∨ (k ≠ 4 ∧ t ≠ [])
theorem pos_len {α : Type} {l : List α} (h : l ≠ []) : decide ((0 : Int) < (l.length : Int)) = true := by
  cases l with
  | nil => exact absurd rfl h
  | cons a l => simp
theorem Tryz.c7_h {S : Summ} (hS7 : S.get 7 = none) {h : AH} (low : ∀ b x, h.t.get b = some x → b < h.next) {k m : Int} {tv cv : AV} {t : List (List Int)} {R : Nat → AV} {l : List Int} (q : PrW h m tv cv t R l) (v : HeadBad k m t l) :
    RunCall Tryz.ctx S 7 [.agg [.int .i64 k, .int .i64 m, tv, cv]] h ⟨.bool false, h⟩ := by
  refine WRun.calls1 (r := 2) hS7 Tryz.fn7 rfl rfl rfl rfl ?_
  have hO := (Mine.start low).add (.cells [.int .i64 k, .int .i64 m, tv, cv] 0)
  have hb : ((⟨h.t, h.next, h.next, []⟩ : AH).add (.cells [.int .i64 k, .int .i64 m, tv, cv] 0)).t.get h.next = some (.cells [.int .i64 k, .int .i64 m, tv, cv] 0) := get_add_self
  have g0 : (argsT [.agg [.int .i64 k, .int .i64 m, tv, cv]] 0 .leaf).get 0 = some (.agg [.int .i64 k, .int .i64 m, tv, cv]) := rfl
  generalize argsT [.agg [.int .i64 k, .int .i64 m, tv, cv]] 0 .leaf = T at g0
  (first | refine WRun.seq (WRun.region ?_) | refine WRun.seq (WRun.seq (WRun.region ?_)) | refine WRun.region ?_ | refine WRun.seq (WRun.seq (WRun.seq (WRun.region ?_)))); ((repeat (first | refine WOps.a rfl (by simp only [reduceIte, Nat.reduceEqDiff, Nat.reduceAdd, B3, g0] <;> rfl) ?_ | refine WOps.b rfl rfl rfl (by simp only [reduceIte, Nat.reduceEqDiff, Nat.reduceAdd, B3, g0] <;> rfl) ?_)); refine WOps.nil ?_)
  generalize ((⟨h.t, h.next, h.next, []⟩ : AH).add (.cells [.int .i64 k, .int .i64 m, tv, cv] 0)) = H at hO hb
  have l0 : evLoad Tryz.y3 (.ptr h.next 0) H = .val (.int .i64 k) H := load_word rfl hb rfl
  have l1 : evLoad Tryz.y3 (.ptr h.next 1) H = .val (.int .i64 m) H := load_word rfl hb rfl
  have l2' : evLoad Tryz.y22 (.ptr h.next 2) H = .val tv H := load_word rfl hb rfl
  have l3 : evLoad Tryz.y25 (.ptr h.next 3) H = .val cv H := load_word rfl hb rfl
  have ql := q.tab.len
  have rl := (q.row).len
  by_cases a1 : k < 1
  · have f3 : decide (k = 3) = false := by simp; omega
    have f5 : decide (k = 5) = false := by simp; omega
    have d1 : decide (k < 1) = true := by simpa using a1
    (first | refine WRun.seq (WRun.region ?_) | refine WRun.seq (WRun.seq (WRun.region ?_)) | refine WRun.region ?_ | refine WRun.seq (WRun.seq (WRun.seq (WRun.region ?_)))); ((repeat (first | refine WOps.a rfl (by simp only [reduceIte, Nat.reduceEqDiff, Nat.reduceAdd, B2, g0, l0, f3, f5] <;> rfl) ?_ | refine WOps.b rfl rfl rfl (by simp only [reduceIte, Nat.reduceEqDiff, Nat.reduceAdd, B2, g0, l0, f3, f5] <;> rfl) ?_)); refine WOps.nil ?_)
    (first | refine WRun.seq (WRun.region ?_) | refine WRun.seq (WRun.seq (WRun.region ?_)) | refine WRun.region ?_ | refine WRun.seq (WRun.seq (WRun.seq (WRun.region ?_)))); ((repeat (first | refine WOps.a rfl (by simp only [reduceIte, Nat.reduceEqDiff, Nat.reduceAdd, B2, g0, l0, l1, l2', l3, ql, rl, f3, f5, d1] <;> rfl) ?_ | refine WOps.b rfl rfl rfl (by simp only [reduceIte, Nat.reduceEqDiff, Nat.reduceAdd, B2, g0, l0, l1, l2', l3, ql, rl, f3, f5, d1] <;> rfl) ?_)); refine WOps.nil ?_)
    (first | refine WRun.condT (by simp only [reduceIte, Nat.reduceEqDiff, Nat.reduceAdd, B3, g0] <;> rfl) ?_ | refine WRun.seq (WRun.condT (by simp only [reduceIte, Nat.reduceEqDiff, Nat.reduceAdd, B3, g0] <;> rfl) ?_))
    (first | refine WRun.seq (WRun.region ?_) | refine WRun.seq (WRun.seq (WRun.region ?_)) | refine WRun.region ?_ | refine WRun.seq (WRun.seq (WRun.seq (WRun.region ?_)))); ((repeat (first | refine WOps.a rfl (by simp only [reduceIte, Nat.reduceEqDiff, Nat.reduceAdd, B3, g0] <;> rfl) ?_ | refine WOps.b rfl rfl rfl (by simp only [reduceIte, Nat.reduceEqDiff, Nat.reduceAdd, B3, g0] <;> rfl) ?_)); refine WOps.nil ?_)
    exact WRun.ret ⟨trivial, rfl, hO.log, (by simp only [reduceIte, Nat.reduceEqDiff, Nat.reduceAdd, B3, g0] <;> rfl)⟩
  have d1 : decide (k < 1) = false := by simpa using a1
  by_cases a9 : 9 < k
  · have f3 : decide (k = 3) = false := by simp; omega
    have f5 : decide (k = 5) = false := by simp; omega
    have d9 : decide ((9 : Int) < k) = true := by simpa using a9
    (first | refine WRun.seq (WRun.region ?_) | refine WRun.seq (WRun.seq (WRun.region ?_)) | refine WRun.region ?_ | refine WRun.seq (WRun.seq (WRun.seq (WRun.region ?_)))); ((repeat (first | refine WOps.a rfl (by simp only [reduceIte, Nat.reduceEqDiff, Nat.reduceAdd, B2, g0, l0, f3, f5] <;> rfl) ?_ | refine WOps.b rfl rfl rfl (by simp only [reduceIte, Nat.reduceEqDiff, Nat.reduceAdd, B2, g0, l0, f3, f5] <;> rfl) ?_)); refine WOps.nil ?_)
    (first | refine WRun.seq (WRun.region ?_) | refine WRun.seq (WRun.seq (WRun.region ?_)) | refine WRun.region ?_ | refine WRun.seq (WRun.seq (WRun.seq (WRun.region ?_)))); ((repeat (first | refine WOps.a rfl (by simp only [reduceIte, Nat.reduceEqDiff, Nat.reduceAdd, B2, g0, l0, l1, l2', l3, ql, rl, f3, f5, d1, d9] <;> rfl) ?_ | refine WOps.b rfl rfl rfl (by simp only [reduceIte, Nat.reduceEqDiff, Nat.reduceAdd, B2, g0, l0, l1, l2', l3, ql, rl, f3, f5, d1, d9] <;> rfl) ?_)); refine WOps.nil ?_)
    (first | refine WRun.condT (by simp only [reduceIte, Nat.reduceEqDiff, Nat.reduceAdd, B3, g0] <;> rfl) ?_ | refine WRun.seq (WRun.condT (by simp only [reduceIte, Nat.reduceEqDiff, Nat.reduceAdd, B3, g0] <;> rfl) ?_))
    (first | refine WRun.seq (WRun.region ?_) | refine WRun.seq (WRun.seq (WRun.region ?_)) | refine WRun.region ?_ | refine WRun.seq (WRun.seq (WRun.seq (WRun.region ?_)))); ((repeat (first | refine WOps.a rfl (by simp only [reduceIte, Nat.reduceEqDiff, Nat.reduceAdd, B3, g0] <;> rfl) ?_ | refine WOps.b rfl rfl rfl (by simp only [reduceIte, Nat.reduceEqDiff, Nat.reduceAdd, B3, g0] <;> rfl) ?_)); refine WOps.nil ?_)
    exact WRun.ret ⟨trivial, rfl, hO.log, (by simp only [reduceIte, Nat.reduceEqDiff, Nat.reduceAdd, B3, g0] <;> rfl)⟩
  have d9 : decide ((9 : Int) < k) = false := by simpa using a9
  by_cases a3 : k = 3
  · have f3 : decide (k = 3) = true := by simpa using a3
    have f5 : decide (k = 5) = false := by simp; omega
    have f4 : decide (k = 4) = false := by simp; omega
    by_cases al : l = []
    · have n1 : decide ((0 : Int) < (l.length : Int)) = false := by rw [al]; rfl
      have n2 : decide ((0 : Int) < (t.length : Int)) = true := by
        rcases v with v | v | ⟨v1, v2, v3⟩ | ⟨v1, v2⟩ | ⟨v1, v2⟩
        · omega
        · omega
        · omega
        · exact absurd al v2
        · exact pos_len v2
      (first | refine WRun.seq (WRun.region ?_) | refine WRun.seq (WRun.seq (WRun.region ?_)) | refine WRun.region ?_ | refine WRun.seq (WRun.seq (WRun.seq (WRun.region ?_)))); ((repeat (first | refine WOps.a rfl (by simp only [reduceIte, Nat.reduceEqDiff, Nat.reduceAdd, B2, g0, l0, f3, f5] <;> rfl) ?_ | refine WOps.b rfl rfl rfl (by simp only [reduceIte, Nat.reduceEqDiff, Nat.reduceAdd, B2, g0, l0, f3, f5] <;> rfl) ?_)); refine WOps.nil ?_)
      (first | refine WRun.seq (WRun.region ?_) | refine WRun.seq (WRun.seq (WRun.region ?_)) | refine WRun.region ?_ | refine WRun.seq (WRun.seq (WRun.seq (WRun.region ?_)))); ((repeat (first | refine WOps.a rfl (by simp only [reduceIte, Nat.reduceEqDiff, Nat.reduceAdd, B2, g0, l0, l1, l2', l3, ql, rl, f3, f5, d1, d9, n1, n2, f4] <;> rfl) ?_ | refine WOps.b rfl rfl rfl (by simp only [reduceIte, Nat.reduceEqDiff, Nat.reduceAdd, B2, g0, l0, l1, l2', l3, ql, rl, f3, f5, d1, d9, n1, n2, f4] <;> rfl) ?_)); refine WOps.nil ?_)
      (first | refine WRun.condT (by simp only [reduceIte, Nat.reduceEqDiff, Nat.reduceAdd, B3, g0] <;> rfl) ?_ | refine WRun.seq (WRun.condT (by simp only [reduceIte, Nat.reduceEqDiff, Nat.reduceAdd, B3, g0] <;> rfl) ?_))
      (first | refine WRun.seq (WRun.region ?_) | refine WRun.seq (WRun.seq (WRun.region ?_)) | refine WRun.region ?_ | refine WRun.seq (WRun.seq (WRun.seq (WRun.region ?_)))); ((repeat (first | refine WOps.a rfl (by simp only [reduceIte, Nat.reduceEqDiff, Nat.reduceAdd, B3, g0] <;> rfl) ?_ | refine WOps.b rfl rfl rfl (by simp only [reduceIte, Nat.reduceEqDiff, Nat.reduceAdd, B3, g0] <;> rfl) ?_)); refine WOps.nil ?_)
      exact WRun.ret ⟨trivial, rfl, hO.log, (by simp only [reduceIte, Nat.reduceEqDiff, Nat.reduceAdd, B3, g0] <;> rfl)⟩
    · have n1 := pos_len al
      (first | refine WRun.seq (WRun.region ?_) | refine WRun.seq (WRun.seq (WRun.region ?_)) | refine WRun.region ?_ | refine WRun.seq (WRun.seq (WRun.seq (WRun.region ?_)))); ((repeat (first | refine WOps.a rfl (by simp only [reduceIte, Nat.reduceEqDiff, Nat.reduceAdd, B2, g0, l0, f3, f5] <;> rfl) ?_ | refine WOps.b rfl rfl rfl (by simp only [reduceIte, Nat.reduceEqDiff, Nat.reduceAdd, B2, g0, l0, f3, f5] <;> rfl) ?_)); refine WOps.nil ?_)
      (first | refine WRun.seq (WRun.region ?_) | refine WRun.seq (WRun.seq (WRun.region ?_)) | refine WRun.region ?_ | refine WRun.seq (WRun.seq (WRun.seq (WRun.region ?_)))); ((repeat (first | refine WOps.a rfl (by simp only [reduceIte, Nat.reduceEqDiff, Nat.reduceAdd, B2, g0, l0, l1, l2', l3, ql, rl, f3, f5, d1, d9, n1] <;> rfl) ?_ | refine WOps.b rfl rfl rfl (by simp only [reduceIte, Nat.reduceEqDiff, Nat.reduceAdd, B2, g0, l0, l1, l2', l3, ql, rl, f3, f5, d1, d9, n1] <;> rfl) ?_)); refine WOps.nil ?_)
      (first | refine WRun.condT (by simp only [reduceIte, Nat.reduceEqDiff, Nat.reduceAdd, B3, g0] <;> rfl) ?_ | refine WRun.seq (WRun.condT (by simp only [reduceIte, Nat.reduceEqDiff, Nat.reduceAdd, B3, g0] <;> rfl) ?_))
      (first | refine WRun.seq (WRun.region ?_) | refine WRun.seq (WRun.seq (WRun.region ?_)) | refine WRun.region ?_ | refine WRun.seq (WRun.seq (WRun.seq (WRun.region ?_)))); ((repeat (first | refine WOps.a rfl (by simp only [reduceIte, Nat.reduceEqDiff, Nat.reduceAdd, B3, g0] <;> rfl) ?_ | refine WOps.b rfl rfl rfl (by simp only [reduceIte, Nat.reduceEqDiff, Nat.reduceAdd, B3, g0] <;> rfl) ?_)); refine WOps.nil ?_)
      exact WRun.ret ⟨trivial, rfl, hO.log, (by simp only [reduceIte, Nat.reduceEqDiff, Nat.reduceAdd, B3, g0] <;> rfl)⟩
  have f3 : decide (k = 3) = false := by simpa using a3
  by_cases a5 : k = 5
  · have f5 : decide (k = 5) = true := by simpa using a5
    have f4 : decide (k = 4) = false := by simp; omega
    have n2 : decide ((0 : Int) < (t.length : Int)) = true := by
      rcases v with v | v | ⟨v1, v2, v3⟩ | ⟨v1, v2⟩ | ⟨v1, v2⟩
      · omega
      · omega
      · omega
      · omega
      · exact pos_len v2
    (first | refine WRun.seq (WRun.region ?_) | refine WRun.seq (WRun.seq (WRun.region ?_)) | refine WRun.region ?_ | refine WRun.seq (WRun.seq (WRun.seq (WRun.region ?_)))); ((repeat (first | refine WOps.a rfl (by simp only [reduceIte, Nat.reduceEqDiff, Nat.reduceAdd, B2, g0, l0, f3, f5] <;> rfl) ?_ | refine WOps.b rfl rfl rfl (by simp only [reduceIte, Nat.reduceEqDiff, Nat.reduceAdd, B2, g0, l0, f3, f5] <;> rfl) ?_)); refine WOps.nil ?_)
    (first | refine WRun.seq (WRun.region ?_) | refine WRun.seq (WRun.seq (WRun.region ?_)) | refine WRun.region ?_ | refine WRun.seq (WRun.seq (WRun.seq (WRun.region ?_)))); ((repeat (first | refine WOps.a rfl (by simp only [reduceIte, Nat.reduceEqDiff, Nat.reduceAdd, B2, g0, l0, l1, l2', l3, ql, rl, f3, f5, d1, d9, n2, f4] <;> rfl) ?_ | refine WOps.b rfl rfl rfl (by simp only [reduceIte, Nat.reduceEqDiff, Nat.reduceAdd, B2, g0, l0, l1, l2', l3, ql, rl, f3, f5, d1, d9, n2, f4] <;> rfl) ?_)); refine WOps.nil ?_)
    (first | refine WRun.condT (by simp only [reduceIte, Nat.reduceEqDiff, Nat.reduceAdd, B3, g0] <;> rfl) ?_ | refine WRun.seq (WRun.condT (by simp only [reduceIte, Nat.reduceEqDiff, Nat.reduceAdd, B3, g0] <;> rfl) ?_))
    (first | refine WRun.seq (WRun.region ?_) | refine WRun.seq (WRun.seq (WRun.region ?_)) | refine WRun.region ?_ | refine WRun.seq (WRun.seq (WRun.seq (WRun.region ?_)))); ((repeat (first | refine WOps.a rfl (by simp only [reduceIte, Nat.reduceEqDiff, Nat.reduceAdd, B3, g0] <;> rfl) ?_ | refine WOps.b rfl rfl rfl (by simp only [reduceIte, Nat.reduceEqDiff, Nat.reduceAdd, B3, g0] <;> rfl) ?_)); refine WOps.nil ?_)
    exact WRun.ret ⟨trivial, rfl, hO.log, (by simp only [reduceIte, Nat.reduceEqDiff, Nat.reduceAdd, B3, g0] <;> rfl)⟩
  have f5 : decide (k = 5) = false := by simpa using a5
  by_cases am : m = 0
  · have e0 : decide (m = 0) = true := by simpa using am
    by_cases al : l = []
    · have n1 : decide ((0 : Int) < (l.length : Int)) = false := by rw [al]; rfl
      have n4 : k ≠ 4 ∧ t ≠ [] := by
        rcases v with v | v | ⟨v1, v2, v3⟩ | ⟨v1, v2⟩ | v
        · omega
        · omega
        · exact absurd am v3
        · exact absurd al v2
        · exact v
      have f4 : decide (k = 4) = false := by simpa using n4.1
      have n2 := pos_len n4.2
      (first | refine WRun.seq (WRun.region ?_) | refine WRun.seq (WRun.seq (WRun.region ?_)) | refine WRun.region ?_ | refine WRun.seq (WRun.seq (WRun.seq (WRun.region ?_)))); ((repeat (first | refine WOps.a rfl (by simp only [reduceIte, Nat.reduceEqDiff, Nat.reduceAdd, B2, g0, l0, f3, f5] <;> rfl) ?_ | refine WOps.b rfl rfl rfl (by simp only [reduceIte, Nat.reduceEqDiff, Nat.reduceAdd, B2, g0, l0, f3, f5] <;> rfl) ?_)); refine WOps.nil ?_)
      (first | refine WRun.seq (WRun.region ?_) | refine WRun.seq (WRun.seq (WRun.region ?_)) | refine WRun.region ?_ | refine WRun.seq (WRun.seq (WRun.seq (WRun.region ?_)))); ((repeat (first | refine WOps.a rfl (by simp only [reduceIte, Nat.reduceEqDiff, Nat.reduceAdd, B2, g0, l0, l1, l2', l3, ql, rl, f3, f5, d1, d9, e0, n1, n2, f4] <;> rfl) ?_ | refine WOps.b rfl rfl rfl (by simp only [reduceIte, Nat.reduceEqDiff, Nat.reduceAdd, B2, g0, l0, l1, l2', l3, ql, rl, f3, f5, d1, d9, e0, n1, n2, f4] <;> rfl) ?_)); refine WOps.nil ?_)
      (first | refine WRun.condT (by simp only [reduceIte, Nat.reduceEqDiff, Nat.reduceAdd, B3, g0] <;> rfl) ?_ | refine WRun.seq (WRun.condT (by simp only [reduceIte, Nat.reduceEqDiff, Nat.reduceAdd, B3, g0] <;> rfl) ?_))
      (first | refine WRun.seq (WRun.region ?_) | refine WRun.seq (WRun.seq (WRun.region ?_)) | refine WRun.region ?_ | refine WRun.seq (WRun.seq (WRun.seq (WRun.region ?_)))); ((repeat (first | refine WOps.a rfl (by simp only [reduceIte, Nat.reduceEqDiff, Nat.reduceAdd, B3, g0] <;> rfl) ?_ | refine WOps.b rfl rfl rfl (by simp only [reduceIte, Nat.reduceEqDiff, Nat.reduceAdd, B3, g0] <;> rfl) ?_)); refine WOps.nil ?_)
      exact WRun.ret ⟨trivial, rfl, hO.log, (by simp only [reduceIte, Nat.reduceEqDiff, Nat.reduceAdd, B3, g0] <;> rfl)⟩
    · have n1 := pos_len al
      (first | refine WRun.seq (WRun.region ?_) | refine WRun.seq (WRun.seq (WRun.region ?_)) | refine WRun.region ?_ | refine WRun.seq (WRun.seq (WRun.seq (WRun.region ?_)))); ((repeat (first | refine WOps.a rfl (by simp only [reduceIte, Nat.reduceEqDiff, Nat.reduceAdd, B2, g0, l0, f3, f5] <;> rfl) ?_ | refine WOps.b rfl rfl rfl (by simp only [reduceIte, Nat.reduceEqDiff, Nat.reduceAdd, B2, g0, l0, f3, f5] <;> rfl) ?_)); refine WOps.nil ?_)
      (first | refine WRun.seq (WRun.region ?_) | refine WRun.seq (WRun.seq (WRun.region ?_)) | refine WRun.region ?_ | refine WRun.seq (WRun.seq (WRun.seq (WRun.region ?_)))); ((repeat (first | refine WOps.a rfl (by simp only [reduceIte, Nat.reduceEqDiff, Nat.reduceAdd, B2, g0, l0, l1, l2', l3, ql, rl, f3, f5, d1, d9, e0, n1] <;> rfl) ?_ | refine WOps.b rfl rfl rfl (by simp only [reduceIte, Nat.reduceEqDiff, Nat.reduceAdd, B2, g0, l0, l1, l2', l3, ql, rl, f3, f5, d1, d9, e0, n1] <;> rfl) ?_)); refine WOps.nil ?_)
      (first | refine WRun.condT (by simp only [reduceIte, Nat.reduceEqDiff, Nat.reduceAdd, B3, g0] <;> rfl) ?_ | refine WRun.seq (WRun.condT (by simp only [reduceIte, Nat.reduceEqDiff, Nat.reduceAdd, B3, g0] <;> rfl) ?_))
      (first | refine WRun.seq (WRun.region ?_) | refine WRun.seq (WRun.seq (WRun.region ?_)) | refine WRun.region ?_ | refine WRun.seq (WRun.seq (WRun.seq (WRun.region ?_)))); ((repeat (first | refine WOps.a rfl (by simp only [reduceIte, Nat.reduceEqDiff, Nat.reduceAdd, B3, g0] <;> rfl) ?_ | refine WOps.b rfl rfl rfl (by simp only [reduceIte, Nat.reduceEqDiff, Nat.reduceAdd, B3, g0] <;> rfl) ?_)); refine WOps.nil ?_)
      exact WRun.ret ⟨trivial, rfl, hO.log, (by simp only [reduceIte, Nat.reduceEqDiff, Nat.reduceAdd, B3, g0] <;> rfl)⟩
  · have e0 : decide (m = 0) = false := by simpa using am
    (first | refine WRun.seq (WRun.region ?_) | refine WRun.seq (WRun.seq (WRun.region ?_)) | refine WRun.region ?_ | refine WRun.seq (WRun.seq (WRun.seq (WRun.region ?_)))); ((repeat (first | refine WOps.a rfl (by simp only [reduceIte, Nat.reduceEqDiff, Nat.reduceAdd, B2, g0, l0, f3, f5] <;> rfl) ?_ | refine WOps.b rfl rfl rfl (by simp only [reduceIte, Nat.reduceEqDiff, Nat.reduceAdd, B2, g0, l0, f3, f5] <;> rfl) ?_)); refine WOps.nil ?_)
    (first | refine WRun.seq (WRun.region ?_) | refine WRun.seq (WRun.seq (WRun.region ?_)) | refine WRun.region ?_ | refine WRun.seq (WRun.seq (WRun.seq (WRun.region ?_)))); ((repeat (first | refine WOps.a rfl (by simp only [reduceIte, Nat.reduceEqDiff, Nat.reduceAdd, B2, g0, l0, l1, l2', l3, ql, rl, f3, f5, d1, d9, e0] <;> rfl) ?_ | refine WOps.b rfl rfl rfl (by simp only [reduceIte, Nat.reduceEqDiff, Nat.reduceAdd, B2, g0, l0, l1, l2', l3, ql, rl, f3, f5, d1, d9, e0] <;> rfl) ?_)); refine WOps.nil ?_)
    (first | refine WRun.condT (by simp only [reduceIte, Nat.reduceEqDiff, Nat.reduceAdd, B3, g0] <;> rfl) ?_ | refine WRun.seq (WRun.condT (by simp only [reduceIte, Nat.reduceEqDiff, Nat.reduceAdd, B3, g0] <;> rfl) ?_))
    (first | refine WRun.seq (WRun.region ?_) | refine WRun.seq (WRun.seq (WRun.region ?_)) | refine WRun.region ?_ | refine WRun.seq (WRun.seq (WRun.seq (WRun.region ?_)))); ((repeat (first | refine WOps.a rfl (by simp only [reduceIte, Nat.reduceEqDiff, Nat.reduceAdd, B3, g0] <;> rfl) ?_ | refine WOps.b rfl rfl rfl (by simp only [reduceIte, Nat.reduceEqDiff, Nat.reduceAdd, B3, g0] <;> rfl) ?_)); refine WOps.nil ?_)
    exact WRun.ret ⟨trivial, rfl, hO.log, (by simp only [reduceIte, Nat.reduceEqDiff, Nat.reduceAdd, B3, g0] <;> rfl)⟩
end Go.Proofs
