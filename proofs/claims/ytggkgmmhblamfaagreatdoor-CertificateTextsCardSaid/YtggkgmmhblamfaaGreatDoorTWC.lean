/- Part of the proof. -/
import Derived.Test.YtggkgmmhblamfaaGreatDoorTWB
import Derived.Test.YtggkgmmhblamfaaGreatDoorTEvW
import Derived.Test.YtggkgmmhblamfaaGreatDoorTTab
set_option linter.all false
namespace Go.Proofs
open Go.Ev
set_option maxRecDepth 100000
theorem decK_len : ∀ (f u : Nat), (decK f u).length ≤ f ∧ (0 < f → 0 < (decK f u).length)
  | 0, u => ⟨Nat.le_refl _, fun h => by omega⟩
  | f + 1, u => by
    have : decK (f + 1) u = cnd (Nat.blt u 10) [UInt8.ofNat (48 + u)] (decK f (u / 10) ++ [UInt8.ofNat (48 + u % 10)]) := rfl
    rw [this, cnd_eq]
    split
    · exact ⟨by simp, fun _ => by simp⟩
    · have := decK_len f (u / 10)
      exact ⟨by simp; omega, fun _ => by simp⟩
theorem itoaK_len (n : Int) : (itoaK n).length ≤ 21 ∧ 0 < (itoaK n).length := by
  cases n with
  | ofNat m => have := decK_len 20 m; exact ⟨Nat.le_trans this.1 (by decide), this.2 (by decide)⟩
  | negSucc m =>
    have := decK_len 20 (m + 1)
    exact ⟨by show (decK 20 (m + 1)).length + 1 ≤ 21; omega, by show 0 < (decK 20 (m + 1)).length + 1; omega⟩
theorem Tryz.cItoa {S : Summ} (h16 : S.get 16 = some sItoa) {n : Int} (h0 : -9223372036854775808 ≤ n) (h1 : n ≤ 9223372036854775807) (h : AH) : RunCall Tryz.ctx S 16 [.int .i64 n] h ⟨.str (itoaK n), h⟩ :=
  RunCall.summ h16 (by
    show cnd (inI64 n) (forceL (itoaK n) fun l => Res.one (V.mk (.str l) h)) .fail = _
    rw [inI64_iff.2 ⟨h0, h1⟩, forceL_eq]
    rfl)
/-- How long a table's text may be. -/
def wt (t : List (List Int)) : Nat := (t.map fun l => 2 + 22 * l.length).sum
theorem wt_take {t : List (List Int)} {x : Nat} {l : List Int} (h : t[x]? = some l) : wt (t.take (x + 1)) = wt (t.take x) + (2 + 22 * l.length) := by
  obtain ⟨h1, h2⟩ := List.getElem?_eq_some_iff.1 h
  unfold wt
  rw [List.take_succ_eq_append_getElem h1, List.map_append, List.sum_append, h2]
  simp
theorem wt_le (t : List (List Int)) (x : Nat) : wt (t.take x) ≤ wt t := by
  unfold wt
  conv => rhs; rw [← List.take_append_drop x t]
  rw [List.map_append, List.sum_append]
  omega
/-- Words with a separator between them. -/
def joinT (sep : List UInt8) : List (List UInt8) → List UInt8
  | [] => []
  | x :: l => x ++ l.flatMap (sep ++ ·)
/-- What stands ahead of the next word. -/
def preT (sep : List UInt8) : List (List UInt8) → List UInt8
  | [] => []
  | l => joinT sep l ++ sep
theorem joinT_snoc (sep : List UInt8) (l : List (List UInt8)) (x : List UInt8) : joinT sep (l ++ [x]) = preT sep l ++ x := by
  cases l with
  | nil => simp [joinT, preT]
  | cons a l => simp [joinT, preT, List.append_assoc]
theorem preT_nil (sep : List UInt8) : preT sep [] = [] := rfl
theorem preT_cons (sep : List UInt8) {l : List (List UInt8)} (h : l ≠ []) : preT sep l = joinT sep l ++ sep := by
  cases l with
  | nil => exact absurd rfl h
  | cons a l => rfl
noncomputable def rowT (l : List Int) : List UInt8 := joinT [32] (l.map itoaK)
noncomputable def tabT (t : List (List Int)) : List UInt8 := joinT [59, 32] (t.map rowT)
theorem take_snoc {α : Type} {l : List α} {x : Nat} {a : α} (h : l[x]? = some a) : l.take (x + 1) = l.take x ++ [a] := by
  obtain ⟨h1, h2⟩ := List.getElem?_eq_some_iff.1 h
  rw [List.take_succ_eq_append_getElem h1, h2]
theorem take_ne {α : Type} {l : List α} {x : Nat} {a : α} (h : l[x]? = some a) (h0 : 0 < x) : l.take x ≠ [] := by
  obtain ⟨h1, h2⟩ := List.getElem?_eq_some_iff.1 h
  intro e
  have q := congrArg List.length e
  rw [List.length_take] at q
  have q : min x l.length = 0 := q
  omega
theorem Tryz.c40 {S : Summ} (hS : S.get 40 = none) (hS50 : S.get 50 = none) (hS77 : S.get 77 = none) (hS88 : S.get 88 = none) (hS51 : S.get 51 = none) (h16 : S.get 16 = some sItoa) {h : AH} (low : ∀ b x, h.t.get b = some x → b < h.next)
    {tv : AV} {t : List (List Int)} {R : Nat → AV} (q : TabT h tv t R) (hbig : t.length < 4611686018427387904) (hw : wt t ≤ 16000000) (hent : ∀ l ∈ t, ∀ x ∈ l, -9223372036854775808 ≤ x ∧ x ≤ 9223372036854775807) :
    RunCall Tryz.ctx S 40 [tv] h ⟨.str (tabT t), h⟩ := by
  have key : WRun Tryz.ctx S 40 Tryz.f40.ntmps none (Tryz.f40.body.getD .skip) (argsT [tv] 0 .leaf) [] ⟨h.t, h.next, h.next, []⟩ fun e T df h' => (match e with | .norm => True | .ret => True | _ => False) ∧ df = [] ∧ h'.log = [] ∧ T.get 2 = some (.str (tabT t)) := by
    have hO := (Mine.start low).add (.cells [.nilp, .nils] (fzNew 91))
    have hb : ((⟨h.t, h.next, h.next, []⟩ : AH).add (.cells [.nilp, .nils] (fzNew 91))).t.get h.next = some (.cells [.nilp, .nils] (fzNew 91)) := get_add_self
    have hnx : ((⟨h.t, h.next, h.next, []⟩ : AH).add (.cells [.nilp, .nils] (fzNew 91))).next = h.next + 1 := rfl
    have z91 : Tryz.y91.zero = [.nilp, .nils] := rfl
    have g0 : (argsT [tv] 0 .leaf).get 0 = some tv := rfl
    generalize argsT [tv] 0 .leaf = T at g0
    (first | refine WRun.seq (WRun.region ?_) | refine WRun.seq (WRun.seq (WRun.region ?_)) | refine WRun.region ?_ | refine WRun.seq (WRun.seq (WRun.seq (WRun.region ?_)))); ((repeat (first | refine WOps.a rfl (by simp only [reduceIte, Nat.reduceEqDiff, Nat.reduceAdd, Bm, g0] <;> rfl) ?_ | refine WOps.b rfl rfl rfl (by simp only [reduceIte, Nat.reduceEqDiff, Nat.reduceAdd, Bm, g0] <;> rfl) ?_)); refine WOps.nil ?_)
    (first | refine WRun.seq (WRun.region ?_) | refine WRun.seq (WRun.seq (WRun.region ?_)) | refine WRun.region ?_ | refine WRun.seq (WRun.seq (WRun.seq (WRun.region ?_)))); ((repeat (first | refine WOps.a rfl (by simp only [reduceIte, Nat.reduceEqDiff, Nat.reduceAdd, Bm, g0, z91] <;> rfl) ?_ | refine WOps.b rfl rfl rfl (by simp only [reduceIte, Nat.reduceEqDiff, Nat.reduceAdd, Bm, g0, z91] <;> rfl) ?_)); refine WOps.nil ?_)
    generalize ((⟨h.t, h.next, h.next, []⟩ : AH).add (.cells [.nilp, .nils] (fzNew 91))) = H at hO hb hnx
    have B0 : Bld h.next H h.next [] := ⟨Nat.le_refl _, by omega, .nilp, .nils, hb, .inl rfl, .inl ⟨rfl, rfl⟩⟩
    have ql := q.len
    (first | refine WRun.seq (WRun.region ?_) | refine WRun.seq (WRun.seq (WRun.region ?_)) | refine WRun.region ?_ | refine WRun.seq (WRun.seq (WRun.seq (WRun.region ?_)))); ((repeat (first | refine WOps.a rfl (by simp only [reduceIte, Nat.reduceEqDiff, Nat.reduceAdd, Bm, g0, ql] <;> rfl) ?_ | refine WOps.b rfl rfl rfl (by simp only [reduceIte, Nat.reduceEqDiff, Nat.reduceAdd, Bm, g0, ql] <;> rfl) ?_)); refine WOps.nil ?_)
    refine WRun.block ?_
    refine WRun.loop (I := fun m T h' => ∃ (x : Nat) (s : List UInt8), m + x = t.length ∧ s = joinT [59, 32] ((t.take x).map rowT) ∧ Mine h h' ∧ Bld h.next h' h.next s ∧ s.length ≤ wt (t.take x) ∧ T.get 3 = some (.ptr h.next 0) ∧ T.get 8 = some tv ∧ T.get 9 = some (.int .i64 t.length) ∧ T.get 10 = some (.int .i64 x)) (m := t.length) ?_
      ⟨0, [], by omega, rfl, hO, B0, Nat.zero_le _, (by simp only [reduceIte, Nat.reduceEqDiff, Nat.reduceAdd, Bm, g0] <;> rfl), (by simp only [reduceIte, Nat.reduceEqDiff, Nat.reduceAdd, Bm, g0] <;> rfl), (by simp only [reduceIte, Nat.reduceEqDiff, Nat.reduceAdd, Bm, g0] <;> rfl), (by simp only [reduceIte, Nat.reduceEqDiff, Nat.reduceAdd, Bm, g0] <;> rfl)⟩
    rintro m T H1 ⟨x, s, hm, hs, O1, B1, hsl, t3, t8, t9, t10⟩
    by_cases hx : x < t.length
    · have hlt : ((x : Int) < (t.length : Int)) = True := by simp; exact hx
      have ad := add1 x (by omega)
      obtain ⟨l, hl⟩ : ∃ l, t[x]? = some l := ⟨_, List.getElem?_eq_getElem hx⟩
      have hlm : l ∈ t := List.mem_of_getElem? hl
      have hwt := wt_take hl
      have hwl := wt_le t (x + 1)
      obtain ⟨b1, o1, a1, l1⟩ := q.row x l hl H1 O1.ext
      have rl := q.rlen x l hl
      (first | refine WRun.seq (WRun.region ?_) | refine WRun.seq (WRun.seq (WRun.region ?_)) | refine WRun.region ?_ | refine WRun.seq (WRun.seq (WRun.seq (WRun.region ?_)))); ((repeat (first | refine WOps.a rfl (by simp only [reduceIte, Nat.reduceEqDiff, Nat.reduceAdd, Bm, t9, t10, hlt] <;> rfl) ?_ | refine WOps.b rfl rfl rfl (by simp only [reduceIte, Nat.reduceEqDiff, Nat.reduceAdd, Bm, t9, t10, hlt] <;> rfl) ?_)); refine WOps.nil ?_)
      (first | refine WRun.condT (by simp only [reduceIte, Nat.reduceEqDiff, Nat.reduceAdd, Bm, hlt] <;> rfl) ?_ | refine WRun.seq (WRun.condT (by simp only [reduceIte, Nat.reduceEqDiff, Nat.reduceAdd, Bm, hlt] <;> rfl) ?_))
      refine WRun.skip ?_
      refine WRun.seq (WRun.block ?_)
      (first | refine WRun.seq (WRun.region ?_) | refine WRun.seq (WRun.seq (WRun.region ?_)) | refine WRun.region ?_ | refine WRun.seq (WRun.seq (WRun.seq (WRun.region ?_)))); ((repeat (first | refine WOps.a rfl (by simp only [reduceIte, Nat.reduceEqDiff, Nat.reduceAdd, Bn, t8, t10, a1, l1] <;> rfl) ?_ | refine WOps.b rfl rfl rfl (by simp only [reduceIte, Nat.reduceEqDiff, Nat.reduceAdd, Bn, t8, t10, a1, l1] <;> rfl) ?_)); refine WOps.nil ?_)
      refine WRun.mid (M := fun T' H' => ∃ s2 : List UInt8, s2 = preT [59, 32] ((t.take x).map rowT) ∧ Mine h H' ∧ Bld h.next H' h.next s2 ∧ s2.length ≤ wt (t.take x) + 2 ∧ T'.get 3 = some (.ptr h.next 0) ∧ T'.get 5 = some (R x) ∧ T'.get 8 = some tv ∧ T'.get 9 = some (.int .i64 t.length) ∧ T'.get 10 = some (.int .i64 x)) ?_ ?_
      · cases d : decide ((0 : Int) < (x : Int))
        · (first | refine WRun.seq (WRun.region ?_) | refine WRun.seq (WRun.seq (WRun.region ?_)) | refine WRun.region ?_ | refine WRun.seq (WRun.seq (WRun.seq (WRun.region ?_)))); ((repeat (first | refine WOps.a rfl (by simp only [reduceIte, Nat.reduceEqDiff, Nat.reduceAdd, Bm, t8, d] <;> rfl) ?_ | refine WOps.b rfl rfl rfl (by simp only [reduceIte, Nat.reduceEqDiff, Nat.reduceAdd, Bm, t8, d] <;> rfl) ?_)); refine WOps.nil ?_)
          (first | refine WRun.condF (by simp only [reduceIte, Nat.reduceEqDiff, Nat.reduceAdd, Bm, d] <;> rfl) ?_ | refine WRun.seq (WRun.condF (by simp only [reduceIte, Nat.reduceEqDiff, Nat.reduceAdd, Bm, d] <;> rfl) ?_))
          exact WRun.skip ⟨rfl, s, (by have := of_decide_eq_false d; have e0 : x = 0 := (by omega); rw [hs, e0]; rfl), O1, B1, by omega, (by simp only [reduceIte, Nat.reduceEqDiff, Nat.reduceAdd, Bm, t3] <;> rfl), (by simp only [reduceIte, Nat.reduceEqDiff, Nat.reduceAdd, Bm, t3] <;> rfl), (by simp only [reduceIte, Nat.reduceEqDiff, Nat.reduceAdd, Bm, t8] <;> rfl), (by simp only [reduceIte, Nat.reduceEqDiff, Nat.reduceAdd, Bm, t9] <;> rfl), (by simp only [reduceIte, Nat.reduceEqDiff, Nat.reduceAdd, Bm, t10] <;> rfl)⟩
        · (first | refine WRun.seq (WRun.region ?_) | refine WRun.seq (WRun.seq (WRun.region ?_)) | refine WRun.region ?_ | refine WRun.seq (WRun.seq (WRun.seq (WRun.region ?_)))); ((repeat (first | refine WOps.a rfl (by simp only [reduceIte, Nat.reduceEqDiff, Nat.reduceAdd, Bm, t8, d] <;> rfl) ?_ | refine WOps.b rfl rfl rfl (by simp only [reduceIte, Nat.reduceEqDiff, Nat.reduceAdd, Bm, t8, d] <;> rfl) ?_)); refine WOps.nil ?_)
          (first | refine WRun.condT (by simp only [reduceIte, Nat.reduceEqDiff, Nat.reduceAdd, Bm, d] <;> rfl) ?_ | refine WRun.seq (WRun.condT (by simp only [reduceIte, Nat.reduceEqDiff, Nat.reduceAdd, Bm, d] <;> rfl) ?_))
          obtain ⟨H2, r1, B2, A2⟩ := Tryz.c50 (S := S) hS50 hS88 B1 (by rw [O1.mark]; exact Nat.le_refl _) (ys := [59, 32]) (by decide) (by show s.length + 2 ≤ 16777216; omega)
          refine WRun.region ?_
          refine WOps.cN (op_call2 (v := .ptr h.next 0) (u := .str [59, 32]) (by simp only [reduceIte, Nat.reduceEqDiff, Nat.reduceAdd, Bm, t3] <;> rfl) rfl Tryz.fn50 Tryz.ex50) r1 rfl ?_
          refine WOps.nil ?_
          exact ⟨rfl, s ++ [59, 32], (by rw [hs, preT_cons _ (by simpa using take_ne hl (by have := of_decide_eq_true d; omega))]), Mine.adv O1 A2, B2, by rw [List.length_append]; show s.length + 2 ≤ _; omega, (by simp only [reduceIte, Nat.reduceEqDiff, Nat.reduceAdd, Bm, t3] <;> rfl), (by simp only [reduceIte, Nat.reduceEqDiff, Nat.reduceAdd, Bm, t3] <;> rfl), (by simp only [reduceIte, Nat.reduceEqDiff, Nat.reduceAdd, Bm, t8] <;> rfl), (by simp only [reduceIte, Nat.reduceEqDiff, Nat.reduceAdd, Bm, t9] <;> rfl), (by simp only [reduceIte, Nat.reduceEqDiff, Nat.reduceAdd, Bm, t10] <;> rfl)⟩
      rintro T H2 ⟨s2, he2, O2, B2, hs2, t3, t5, t8, t9, t10⟩
      (first | refine WRun.seq (WRun.region ?_) | refine WRun.seq (WRun.seq (WRun.region ?_)) | refine WRun.region ?_ | refine WRun.seq (WRun.seq (WRun.seq (WRun.region ?_)))); ((repeat (first | refine WOps.a rfl (by simp only [reduceIte, Nat.reduceEqDiff, Nat.reduceAdd, Bm, t5, rl] <;> rfl) ?_ | refine WOps.b rfl rfl rfl (by simp only [reduceIte, Nat.reduceEqDiff, Nat.reduceAdd, Bm, t5, rl] <;> rfl) ?_)); refine WOps.nil ?_)
      refine WRun.block ?_
      refine WRun.loop (I := fun m T h' => ∃ (y : Nat) (s3 : List UInt8), m + y = l.length ∧ s3 = s2 ++ joinT [32] ((l.take y).map itoaK) ∧ Mine h h' ∧ Bld h.next h' h.next s3 ∧ s3.length ≤ wt (t.take x) + 2 + 22 * y ∧ T.get 3 = some (.ptr h.next 0) ∧ T.get 8 = some tv ∧ T.get 9 = some (.int .i64 t.length) ∧ T.get 10 = some (.int .i64 x) ∧
        T.get 18 = some (R x) ∧ T.get 19 = some (.int .i64 l.length) ∧ T.get 20 = some (.int .i64 y)) (m := l.length) ?_ ⟨0, s2, by omega, by simp [joinT], O2, B2, by omega, (by simp only [reduceIte, Nat.reduceEqDiff, Nat.reduceAdd, Bm, t3] <;> rfl), (by simp only [reduceIte, Nat.reduceEqDiff, Nat.reduceAdd, Bm, t8] <;> rfl), (by simp only [reduceIte, Nat.reduceEqDiff, Nat.reduceAdd, Bm, t9] <;> rfl), (by simp only [reduceIte, Nat.reduceEqDiff, Nat.reduceAdd, Bm, t10] <;> rfl), (by simp only [reduceIte, Nat.reduceEqDiff, Nat.reduceAdd, Bm, t5] <;> rfl), (by simp only [reduceIte, Nat.reduceEqDiff, Nat.reduceAdd, Bm, t5] <;> rfl), (by simp only [reduceIte, Nat.reduceEqDiff, Nat.reduceAdd, Bm, t5] <;> rfl)⟩
      rintro m2 T H3 ⟨y, s3, hm2, he3, O3, B3, hs3, t3, t8, t9, t10, t18, t19, t20⟩
      by_cases hy : y < l.length
      · have hlt : ((y : Int) < (l.length : Int)) = True := by simp; exact hy
        have hlb : l.length ≤ 16000000 := by omega
        have ad2 := add1 y (by omega)
        obtain ⟨z, hz⟩ : ∃ z, l[y]? = some z := ⟨_, List.getElem?_eq_getElem hy⟩
        obtain ⟨z0, z1⟩ := hent l hlm z (List.mem_of_getElem? hz)
        obtain ⟨b2, o2, a2, l2⟩ := q.ent x l y z hl hz H3 O3.ext
        (first | refine WRun.seq (WRun.region ?_) | refine WRun.seq (WRun.seq (WRun.region ?_)) | refine WRun.region ?_ | refine WRun.seq (WRun.seq (WRun.seq (WRun.region ?_)))); ((repeat (first | refine WOps.a rfl (by simp only [reduceIte, Nat.reduceEqDiff, Nat.reduceAdd, Bm, t19, t20, hlt] <;> rfl) ?_ | refine WOps.b rfl rfl rfl (by simp only [reduceIte, Nat.reduceEqDiff, Nat.reduceAdd, Bm, t19, t20, hlt] <;> rfl) ?_)); refine WOps.nil ?_)
        (first | refine WRun.condT (by simp only [reduceIte, Nat.reduceEqDiff, Nat.reduceAdd, Bm, hlt] <;> rfl) ?_ | refine WRun.seq (WRun.condT (by simp only [reduceIte, Nat.reduceEqDiff, Nat.reduceAdd, Bm, hlt] <;> rfl) ?_))
        refine WRun.skip ?_
        refine WRun.seq (WRun.block ?_)
        (first | refine WRun.seq (WRun.region ?_) | refine WRun.seq (WRun.seq (WRun.region ?_)) | refine WRun.region ?_ | refine WRun.seq (WRun.seq (WRun.seq (WRun.region ?_)))); ((repeat (first | refine WOps.a rfl (by simp only [reduceIte, Nat.reduceEqDiff, Nat.reduceAdd, Bn, t18, t20, a2, l2] <;> rfl) ?_ | refine WOps.b rfl rfl rfl (by simp only [reduceIte, Nat.reduceEqDiff, Nat.reduceAdd, Bn, t18, t20, a2, l2] <;> rfl) ?_)); refine WOps.nil ?_)
        refine WRun.mid (M := fun T' H' => ∃ s4 : List UInt8, s4 = s2 ++ preT [32] ((l.take y).map itoaK) ∧ Mine h H' ∧ Bld h.next H' h.next s4 ∧ s4.length ≤ wt (t.take x) + 2 + 22 * y + 1 ∧ T'.get 3 = some (.ptr h.next 0) ∧ T'.get 7 = some (.int .i64 z) ∧ T'.get 8 = some tv ∧ T'.get 9 = some (.int .i64 t.length) ∧ T'.get 10 = some (.int .i64 x) ∧
          T'.get 18 = some (R x) ∧ T'.get 19 = some (.int .i64 l.length) ∧ T'.get 20 = some (.int .i64 y)) ?_ ?_
        · cases d : decide ((0 : Int) < (y : Int))
          · (first | refine WRun.seq (WRun.region ?_) | refine WRun.seq (WRun.seq (WRun.region ?_)) | refine WRun.region ?_ | refine WRun.seq (WRun.seq (WRun.seq (WRun.region ?_)))); ((repeat (first | refine WOps.a rfl (by simp only [reduceIte, Nat.reduceEqDiff, Nat.reduceAdd, Bm, t8, d] <;> rfl) ?_ | refine WOps.b rfl rfl rfl (by simp only [reduceIte, Nat.reduceEqDiff, Nat.reduceAdd, Bm, t8, d] <;> rfl) ?_)); refine WOps.nil ?_)
            (first | refine WRun.condF (by simp only [reduceIte, Nat.reduceEqDiff, Nat.reduceAdd, Bm, d] <;> rfl) ?_ | refine WRun.seq (WRun.condF (by simp only [reduceIte, Nat.reduceEqDiff, Nat.reduceAdd, Bm, d] <;> rfl) ?_))
            exact WRun.skip ⟨rfl, s3, (by have := of_decide_eq_false d; have e0 : y = 0 := (by omega); rw [he3, e0]; rfl), O3, B3, by omega, (by simp only [reduceIte, Nat.reduceEqDiff, Nat.reduceAdd, Bm, t3] <;> rfl), (by simp only [reduceIte, Nat.reduceEqDiff, Nat.reduceAdd, Bm, t3] <;> rfl), (by simp only [reduceIte, Nat.reduceEqDiff, Nat.reduceAdd, Bm, t8] <;> rfl), (by simp only [reduceIte, Nat.reduceEqDiff, Nat.reduceAdd, Bm, t9] <;> rfl), (by simp only [reduceIte, Nat.reduceEqDiff, Nat.reduceAdd, Bm, t10] <;> rfl), (by simp only [reduceIte, Nat.reduceEqDiff, Nat.reduceAdd, Bm, t18] <;> rfl), (by simp only [reduceIte, Nat.reduceEqDiff, Nat.reduceAdd, Bm, t19] <;> rfl), (by simp only [reduceIte, Nat.reduceEqDiff, Nat.reduceAdd, Bm, t20] <;> rfl)⟩
          · (first | refine WRun.seq (WRun.region ?_) | refine WRun.seq (WRun.seq (WRun.region ?_)) | refine WRun.region ?_ | refine WRun.seq (WRun.seq (WRun.seq (WRun.region ?_)))); ((repeat (first | refine WOps.a rfl (by simp only [reduceIte, Nat.reduceEqDiff, Nat.reduceAdd, Bm, t8, d] <;> rfl) ?_ | refine WOps.b rfl rfl rfl (by simp only [reduceIte, Nat.reduceEqDiff, Nat.reduceAdd, Bm, t8, d] <;> rfl) ?_)); refine WOps.nil ?_)
            (first | refine WRun.condT (by simp only [reduceIte, Nat.reduceEqDiff, Nat.reduceAdd, Bm, d] <;> rfl) ?_ | refine WRun.seq (WRun.condT (by simp only [reduceIte, Nat.reduceEqDiff, Nat.reduceAdd, Bm, d] <;> rfl) ?_))
            obtain ⟨H4, r1, B4, A4⟩ := Tryz.c77 (S := S) hS77 hS88 B3 (by rw [O3.mark]; exact Nat.le_refl _) (x := 32) (by omega)
            refine WRun.region ?_
            refine WOps.cN (op_call2 (v := .ptr h.next 0) (u := .int .u8 ((32 : UInt8).toNat : Int)) (by simp only [reduceIte, Nat.reduceEqDiff, Nat.reduceAdd, Bm, t3] <;> rfl) rfl Tryz.fn77 Tryz.ex77) r1 rfl ?_
            refine WOps.nil ?_
            exact ⟨rfl, s3 ++ [32], (by rw [he3, preT_cons _ (by simpa using take_ne hz (by have := of_decide_eq_true d; omega)), List.append_assoc]), Mine.adv O3 A4, B4, by rw [List.length_append]; show s3.length + 1 ≤ _; omega, (by simp only [reduceIte, Nat.reduceEqDiff, Nat.reduceAdd, Bm, t3] <;> rfl), (by simp only [reduceIte, Nat.reduceEqDiff, Nat.reduceAdd, Bm, t3] <;> rfl), (by simp only [reduceIte, Nat.reduceEqDiff, Nat.reduceAdd, Bm, t8] <;> rfl), (by simp only [reduceIte, Nat.reduceEqDiff, Nat.reduceAdd, Bm, t9] <;> rfl), (by simp only [reduceIte, Nat.reduceEqDiff, Nat.reduceAdd, Bm, t10] <;> rfl), (by simp only [reduceIte, Nat.reduceEqDiff, Nat.reduceAdd, Bm, t18] <;> rfl), (by simp only [reduceIte, Nat.reduceEqDiff, Nat.reduceAdd, Bm, t19] <;> rfl), (by simp only [reduceIte, Nat.reduceEqDiff, Nat.reduceAdd, Bm, t20] <;> rfl)⟩
        rintro T H4 ⟨s4, he4, O4, B4, hs4, t3, t7, t8, t9, t10, t18, t19, t20⟩
        have hil := itoaK_len z
        obtain ⟨H5, r1, B5, A5⟩ := Tryz.c50 (S := S) hS50 hS88 B4 (by rw [O4.mark]; exact Nat.le_refl _) (ys := itoaK z) hil.2 (by omega)
        refine WRun.region ?_
        (first | refine WOps.a rfl (by simp only [reduceIte, Nat.reduceEqDiff, Nat.reduceAdd, Bm, t7] <;> rfl) ?_ | refine WOps.vG ((guard_bool rfl rfl (by simp only [reduceIte, Nat.reduceEqDiff, Nat.reduceAdd, Bm, t7] <;> rfl)).trans rfl) (by simp only [reduceIte, Nat.reduceEqDiff, Nat.reduceAdd, Bm, t7] <;> rfl) rfl ?_ | refine WOps.nG (by first | exact (guard_bool rfl rfl (by simp only [reduceIte, Nat.reduceEqDiff, Nat.reduceAdd, Bm, t7] <;> rfl)).trans rfl | exact guard_not rfl rfl (by simp only [reduceIte, Nat.reduceEqDiff, Nat.reduceAdd, Bm, t7] <;> rfl)) rfl ?_)
        refine WOps.cN (op_call1 (v := .int .i64 z) (by simp only [reduceIte, Nat.reduceEqDiff, Nat.reduceAdd, Bm, t7] <;> rfl) Tryz.fn16 Tryz.ex16) (Tryz.cItoa h16 z0 z1 _) rfl ?_
        refine WOps.cN (op_call2 (v := .ptr h.next 0) (u := .str (itoaK z)) (by simp only [reduceIte, Nat.reduceEqDiff, Nat.reduceAdd, Bm, t3] <;> rfl) (by simp only [reduceIte, Nat.reduceEqDiff, Nat.reduceAdd, Bm, t3] <;> rfl) Tryz.fn50 Tryz.ex50) r1 rfl ?_
        refine WOps.nil ?_
        (first | refine WRun.seq (WRun.region ?_) | refine WRun.seq (WRun.seq (WRun.region ?_)) | refine WRun.region ?_ | refine WRun.seq (WRun.seq (WRun.seq (WRun.region ?_)))); ((repeat (first | refine WOps.a rfl (by simp only [reduceIte, Nat.reduceEqDiff, Nat.reduceAdd, Bm, t20, ad2] <;> rfl) ?_ | refine WOps.b rfl rfl rfl (by simp only [reduceIte, Nat.reduceEqDiff, Nat.reduceAdd, Bm, t20, ad2] <;> rfl) ?_)); refine WOps.nil ?_)
        exact ⟨rfl, m2 - 1, by omega, y + 1, s4 ++ itoaK z, by omega, (by rw [take_snoc hz, List.map_append, List.map_cons, List.map_nil, joinT_snoc, he4, List.append_assoc]), Mine.adv O4 A5, B5, by rw [List.length_append]; omega, (by simp only [reduceIte, Nat.reduceEqDiff, Nat.reduceAdd, Bm, t3] <;> rfl), (by simp only [reduceIte, Nat.reduceEqDiff, Nat.reduceAdd, Bm, t8] <;> rfl), (by simp only [reduceIte, Nat.reduceEqDiff, Nat.reduceAdd, Bm, t9] <;> rfl), (by simp only [reduceIte, Nat.reduceEqDiff, Nat.reduceAdd, Bm, t10] <;> rfl), (by simp only [reduceIte, Nat.reduceEqDiff, Nat.reduceAdd, Bm, t18] <;> rfl), (by simp only [reduceIte, Nat.reduceEqDiff, Nat.reduceAdd, Bm, t19] <;> rfl), (by simp only [reduceIte, Nat.reduceEqDiff, Nat.reduceAdd, Bm, t20] <;> rfl)⟩
      · have hlt : ((y : Int) < (l.length : Int)) = False := by simp; omega
        (first | refine WRun.seq (WRun.region ?_) | refine WRun.seq (WRun.seq (WRun.region ?_)) | refine WRun.region ?_ | refine WRun.seq (WRun.seq (WRun.seq (WRun.region ?_)))); ((repeat (first | refine WOps.a rfl (by simp only [reduceIte, Nat.reduceEqDiff, Nat.reduceAdd, Bm, t19, t20, hlt] <;> rfl) ?_ | refine WOps.b rfl rfl rfl (by simp only [reduceIte, Nat.reduceEqDiff, Nat.reduceAdd, Bm, t19, t20, hlt] <;> rfl) ?_)); refine WOps.nil ?_)
        (first | refine WRun.condF (by simp only [reduceIte, Nat.reduceEqDiff, Nat.reduceAdd, Bm, hlt] <;> rfl) ?_ | refine WRun.seq (WRun.condF (by simp only [reduceIte, Nat.reduceEqDiff, Nat.reduceAdd, Bm, hlt] <;> rfl) ?_))
        refine WRun.exit ?_
        have ey : y = l.length := by omega
        subst ey
        (first | refine WRun.seq (WRun.region ?_) | refine WRun.seq (WRun.seq (WRun.region ?_)) | refine WRun.region ?_ | refine WRun.seq (WRun.seq (WRun.seq (WRun.region ?_)))); ((repeat (first | refine WOps.a rfl (by simp only [reduceIte, Nat.reduceEqDiff, Nat.reduceAdd, Bm, t10, ad] <;> rfl) ?_ | refine WOps.b rfl rfl rfl (by simp only [reduceIte, Nat.reduceEqDiff, Nat.reduceAdd, Bm, t10, ad] <;> rfl) ?_)); refine WOps.nil ?_)
        exact ⟨rfl, m - 1, by omega, x + 1, s3, by omega, (by rw [take_snoc hl, List.map_append, List.map_cons, List.map_nil, joinT_snoc, he3, he2, List.take_length]; rfl), O3, B3, by rw [hwt]; omega, (by simp only [reduceIte, Nat.reduceEqDiff, Nat.reduceAdd, Bm, t3] <;> rfl), (by simp only [reduceIte, Nat.reduceEqDiff, Nat.reduceAdd, Bm, t8] <;> rfl), (by simp only [reduceIte, Nat.reduceEqDiff, Nat.reduceAdd, Bm, t9] <;> rfl), (by simp only [reduceIte, Nat.reduceEqDiff, Nat.reduceAdd, Bm, t10] <;> rfl)⟩
    · have hlt : ((x : Int) < (t.length : Int)) = False := by simp; omega
      have hs : s = tabT t := by rw [hs, List.take_of_length_le (by omega)]; rfl
      subst hs
      (first | refine WRun.seq (WRun.region ?_) | refine WRun.seq (WRun.seq (WRun.region ?_)) | refine WRun.region ?_ | refine WRun.seq (WRun.seq (WRun.seq (WRun.region ?_)))); ((repeat (first | refine WOps.a rfl (by simp only [reduceIte, Nat.reduceEqDiff, Nat.reduceAdd, Bm, t9, t10, hlt] <;> rfl) ?_ | refine WOps.b rfl rfl rfl (by simp only [reduceIte, Nat.reduceEqDiff, Nat.reduceAdd, Bm, t9, t10, hlt] <;> rfl) ?_)); refine WOps.nil ?_)
      (first | refine WRun.condF (by simp only [reduceIte, Nat.reduceEqDiff, Nat.reduceAdd, Bm, hlt] <;> rfl) ?_ | refine WRun.seq (WRun.condF (by simp only [reduceIte, Nat.reduceEqDiff, Nat.reduceAdd, Bm, hlt] <;> rfl) ?_))
      refine WRun.exit ?_
      obtain ⟨H2, r1, B2, A2⟩ := Tryz.c51 (S := S) hS51 B1 (by rw [O1.mark]; exact Nat.le_refl _) (by have := wt_le t x; omega)
      refine WRun.seq (WRun.region ?_)
      refine WOps.cN (op_call1 (v := .ptr h.next 0) (by simp only [reduceIte, Nat.reduceEqDiff, Nat.reduceAdd, Bm, t3] <;> rfl) Tryz.fn51 Tryz.ex51) r1 rfl ?_
      ((repeat (first | refine WOps.a rfl (by simp only [reduceIte, Nat.reduceEqDiff, Nat.reduceAdd, Bm, t3] <;> rfl) ?_ | refine WOps.b rfl rfl rfl (by simp only [reduceIte, Nat.reduceEqDiff, Nat.reduceAdd, Bm, t3] <;> rfl) ?_)); refine WOps.nil ?_)
      exact WRun.ret ⟨trivial, rfl, (Mine.adv O1 A2).log, (by simp only [reduceIte, Nat.reduceEqDiff, Nat.reduceAdd, Bm, t3] <;> rfl)⟩
  obtain ⟨e, T, df, h', h1, h2, h3, h4, h5⟩ := key
  exact WRun.calls1 (r := 2) hS Tryz.fn40 rfl rfl rfl rfl ⟨e, T, df, h', h1, h2, h3, h4, h5⟩
end Go.Proofs
namespace Go.Proofs
open Go.Ev
set_option maxRecDepth 100000
/-- quandle.Format of what is no quandle. -/
theorem Tryz.c17f {S : Summ} (hS : S.get 17 = none) {h : AH} {tv : AV} (c19 : ∀ h' : AH, Mine h h' → RunCall Tryz.ctx S 19 [.agg [tv]] h' ⟨.bool false, h'⟩) (low : ∀ b x, h.t.get b = some x → b < h.next) :
    RunCall Tryz.ctx S 17 [.agg [tv]] h ⟨.tup [.str [], .int .i64 1], h⟩ := by
  refine WRun.calls2 (r := 2) (q := 3) hS Tryz.fn17 rfl rfl rfl rfl rfl ?_
  have hO := (Mine.start low).add (.cells [tv] 0)
  have g0 : (argsT [.agg [tv]] 0 .leaf).get 0 = some (.agg [tv]) := rfl
  generalize argsT [.agg [tv]] 0 .leaf = T at g0
  (first | refine WRun.seq (WRun.region ?_) | refine WRun.seq (WRun.seq (WRun.region ?_)) | refine WRun.region ?_ | refine WRun.seq (WRun.seq (WRun.seq (WRun.region ?_)))); ((repeat (first | refine WOps.a rfl (by simp only [reduceIte, Nat.reduceEqDiff, Nat.reduceAdd, Bm, g0] <;> rfl) ?_ | refine WOps.b rfl rfl rfl (by simp only [reduceIte, Nat.reduceEqDiff, Nat.reduceAdd, Bm, g0] <;> rfl) ?_)); refine WOps.nil ?_)
  refine WRun.seq (WRun.seq (WRun.region ?_))
  (first | refine WOps.a rfl (by simp only [reduceIte, Nat.reduceEqDiff, Nat.reduceAdd, Bm, g0] <;> rfl) ?_ | refine WOps.vG ((guard_bool rfl rfl (by simp only [reduceIte, Nat.reduceEqDiff, Nat.reduceAdd, Bm, g0] <;> rfl)).trans rfl) (by simp only [reduceIte, Nat.reduceEqDiff, Nat.reduceAdd, Bm, g0] <;> rfl) rfl ?_ | refine WOps.nG (by first | exact (guard_bool rfl rfl (by simp only [reduceIte, Nat.reduceEqDiff, Nat.reduceAdd, Bm, g0] <;> rfl)).trans rfl | exact guard_not rfl rfl (by simp only [reduceIte, Nat.reduceEqDiff, Nat.reduceAdd, Bm, g0] <;> rfl)) rfl ?_)
  refine WOps.cN (op_call1 (v := .agg [tv]) (by simp only [reduceIte, Nat.reduceEqDiff, Nat.reduceAdd, Bm, g0] <;> rfl) Tryz.fn19 Tryz.ex19) (c19 _ hO) rfl ?_
  ((repeat (first | refine WOps.a rfl (by simp only [reduceIte, Nat.reduceEqDiff, Nat.reduceAdd, Bm, g0] <;> rfl) ?_ | refine WOps.b rfl rfl rfl (by simp only [reduceIte, Nat.reduceEqDiff, Nat.reduceAdd, Bm, g0] <;> rfl) ?_)); refine WOps.nil ?_)
  (first | refine WRun.condT (by simp only [reduceIte, Nat.reduceEqDiff, Nat.reduceAdd, Bm, g0] <;> rfl) ?_ | refine WRun.seq (WRun.condT (by simp only [reduceIte, Nat.reduceEqDiff, Nat.reduceAdd, Bm, g0] <;> rfl) ?_))
  (first | refine WRun.seq (WRun.region ?_) | refine WRun.seq (WRun.seq (WRun.region ?_)) | refine WRun.region ?_ | refine WRun.seq (WRun.seq (WRun.seq (WRun.region ?_)))); ((repeat (first | refine WOps.a rfl (by simp only [reduceIte, Nat.reduceEqDiff, Nat.reduceAdd, Bm, g0] <;> rfl) ?_ | refine WOps.b rfl rfl rfl (by simp only [reduceIte, Nat.reduceEqDiff, Nat.reduceAdd, Bm, g0] <;> rfl) ?_)); refine WOps.nil ?_)
  exact WRun.ret ⟨trivial, rfl, hO.log, (by simp only [reduceIte, Nat.reduceEqDiff, Nat.reduceAdd, Bm, g0] <;> rfl), (by simp only [reduceIte, Nat.reduceEqDiff, Nat.reduceAdd, Bm, g0] <;> rfl)⟩
/-- .. of a quandle. -/
theorem Tryz.c17t {S : Summ} (hS : S.get 17 = none) {h : AH} {tv : AV} {s : List UInt8} (c19 : ∀ h' : AH, Mine h h' → RunCall Tryz.ctx S 19 [.agg [tv]] h' ⟨.bool true, h'⟩) (c40 : ∀ h' : AH, Mine h h' → RunCall Tryz.ctx S 40 [tv] h' ⟨.str s, h'⟩)
    (low : ∀ b x, h.t.get b = some x → b < h.next) :
    RunCall Tryz.ctx S 17 [.agg [tv]] h ⟨.tup [.str s, .int .i64 0], h⟩ := by
  refine WRun.calls2 (r := 2) (q := 3) hS Tryz.fn17 rfl rfl rfl rfl rfl ?_
  have hO := (Mine.start low).add (.cells [tv] 0)
  have g0 : (argsT [.agg [tv]] 0 .leaf).get 0 = some (.agg [tv]) := rfl
  generalize argsT [.agg [tv]] 0 .leaf = T at g0
  (first | refine WRun.seq (WRun.region ?_) | refine WRun.seq (WRun.seq (WRun.region ?_)) | refine WRun.region ?_ | refine WRun.seq (WRun.seq (WRun.seq (WRun.region ?_)))); ((repeat (first | refine WOps.a rfl (by simp only [reduceIte, Nat.reduceEqDiff, Nat.reduceAdd, Bm, g0] <;> rfl) ?_ | refine WOps.b rfl rfl rfl (by simp only [reduceIte, Nat.reduceEqDiff, Nat.reduceAdd, Bm, g0] <;> rfl) ?_)); refine WOps.nil ?_)
  refine WRun.seq (WRun.seq (WRun.region ?_))
  (first | refine WOps.a rfl (by simp only [reduceIte, Nat.reduceEqDiff, Nat.reduceAdd, Bm, g0] <;> rfl) ?_ | refine WOps.vG ((guard_bool rfl rfl (by simp only [reduceIte, Nat.reduceEqDiff, Nat.reduceAdd, Bm, g0] <;> rfl)).trans rfl) (by simp only [reduceIte, Nat.reduceEqDiff, Nat.reduceAdd, Bm, g0] <;> rfl) rfl ?_ | refine WOps.nG (by first | exact (guard_bool rfl rfl (by simp only [reduceIte, Nat.reduceEqDiff, Nat.reduceAdd, Bm, g0] <;> rfl)).trans rfl | exact guard_not rfl rfl (by simp only [reduceIte, Nat.reduceEqDiff, Nat.reduceAdd, Bm, g0] <;> rfl)) rfl ?_)
  refine WOps.cN (op_call1 (v := .agg [tv]) (by simp only [reduceIte, Nat.reduceEqDiff, Nat.reduceAdd, Bm, g0] <;> rfl) Tryz.fn19 Tryz.ex19) (c19 _ hO) rfl ?_
  ((repeat (first | refine WOps.a rfl (by simp only [reduceIte, Nat.reduceEqDiff, Nat.reduceAdd, Bm, g0] <;> rfl) ?_ | refine WOps.b rfl rfl rfl (by simp only [reduceIte, Nat.reduceEqDiff, Nat.reduceAdd, Bm, g0] <;> rfl) ?_)); refine WOps.nil ?_)
  (first | refine WRun.condF (by simp only [reduceIte, Nat.reduceEqDiff, Nat.reduceAdd, Bm, g0] <;> rfl) ?_ | refine WRun.seq (WRun.condF (by simp only [reduceIte, Nat.reduceEqDiff, Nat.reduceAdd, Bm, g0] <;> rfl) ?_))
  refine WRun.skip ?_
  refine WRun.seq (WRun.region ?_)
  iterate 2 (first | refine WOps.a rfl (by simp only [reduceIte, Nat.reduceEqDiff, Nat.reduceAdd, Bm, g0] <;> rfl) ?_ | refine WOps.vG ((guard_bool rfl rfl (by simp only [reduceIte, Nat.reduceEqDiff, Nat.reduceAdd, Bm, g0] <;> rfl)).trans rfl) (by simp only [reduceIte, Nat.reduceEqDiff, Nat.reduceAdd, Bm, g0] <;> rfl) rfl ?_ | refine WOps.nG (by first | exact (guard_bool rfl rfl (by simp only [reduceIte, Nat.reduceEqDiff, Nat.reduceAdd, Bm, g0] <;> rfl)).trans rfl | exact guard_not rfl rfl (by simp only [reduceIte, Nat.reduceEqDiff, Nat.reduceAdd, Bm, g0] <;> rfl)) rfl ?_)
  refine WOps.cN (op_call1 (v := tv) (by simp only [reduceIte, Nat.reduceEqDiff, Nat.reduceAdd, Bm, g0] <;> rfl) Tryz.fn40 Tryz.ex40) (c40 _ hO) rfl ?_
  ((repeat (first | refine WOps.a rfl (by simp only [reduceIte, Nat.reduceEqDiff, Nat.reduceAdd, Bm, g0] <;> rfl) ?_ | refine WOps.b rfl rfl rfl (by simp only [reduceIte, Nat.reduceEqDiff, Nat.reduceAdd, Bm, g0] <;> rfl) ?_)); refine WOps.nil ?_)
  exact WRun.ret ⟨trivial, rfl, hO.log, (by simp only [reduceIte, Nat.reduceEqDiff, Nat.reduceAdd, Bm, g0] <;> rfl), (by simp only [reduceIte, Nat.reduceEqDiff, Nat.reduceAdd, Bm, g0] <;> rfl)⟩
end Go.Proofs
namespace Go.Proofs
open Go.Ev
theorem By : type_of% (And.intro @op_slice (And.intro @optOpd_none (And.intro @optOpd_some @ofValue_nilf))) :=
  And.intro @op_slice (And.intro @optOpd_none (And.intro @optOpd_some @ofValue_nilf))
end Go.Proofs
