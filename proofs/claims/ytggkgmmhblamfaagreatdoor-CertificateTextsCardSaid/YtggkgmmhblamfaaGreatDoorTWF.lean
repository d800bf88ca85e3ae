/- Part of the proof. -/
import Derived.Test.YtggkgmmhblamfaaGreatDoorTWE
import Derived.Test.YtggkgmmhblamfaaGreatDoorTWA
set_option linter.all false
namespace Go.Proofs
open Go.Ev
set_option maxRecDepth 100000
theorem VecI.rowT {lo : Nat} {H : AH} {v : AV} {l : List Int} (r : VecI lo H v (intsAV l)) : RowT H v l :=
  ⟨fun h' => by
    have := r.len (ty := Tryz.ctx.ty) (a := Tryz.y25) rfl h'
    rw [show (intsAV l).length = l.length from List.length_map ..] at this
    exact this, fun j x hj h' e => (r.row.mono e).elem rfl Tryz.ty3 rfl rfl (by unfold intsAV; rw [List.getElem?_map, hj]; rfl)⟩
theorem op_makeSlice {C : Ctx} {T : PT AV} {h : AH} {t : TypeId} {l c : Operand} : evOp (.makeSlice t l c) C T h = withT C.ty t fun a => with2 (evOpd C.G T l) (evOpd C.G T c) fun l c => evMakeSlice C.ty a l c h := rfl
theorem mkSlice {h : AH} {n : Nat} (hn : n ≤ 1048576) : evMakeSlice Tryz.ctx.ty Tryz.y52 (.int .i64 (n : Int)) (.int .i64 (n : Int)) h = .val (.slice h.next 0 n n) (h.add (.cells (times [.str []] n) 0)) := by
  show (match Tryz.ctx.ty.get 9 with
    | some ae => cnd (Nat.ble n n && Nat.ble n 1048576 && Nat.ble ae.bytes 1048576 && Nat.beq (len ae.zero) ae.size && Nat.blt 0 ae.size)
        (forceL (times ae.zero n) fun z => forceN h.next fun b => R.val (.slice b 0 n n) (h.add (.cells z 0))) .fail
    | none => .fail) = _
  rw [Tryz.ty9]
  show cnd (Nat.ble n n && Nat.ble n 1048576 && Nat.ble Tryz.y9.bytes 1048576 && Nat.beq (len Tryz.y9.zero) Tryz.y9.size && Nat.blt 0 Tryz.y9.size) (forceL (times [.str []] n) fun z => forceN h.next fun b => R.val (.slice b 0 n n) (h.add (.cells z 0))) .fail = _
  have e : (Nat.ble Tryz.y9.bytes 1048576 && Nat.beq (len Tryz.y9.zero) Tryz.y9.size && Nat.blt 0 Tryz.y9.size) = true := by decide +kernel
  rw [Bool.and_assoc, Bool.and_assoc, Bool.and_assoc, ← Bool.and_assoc (Nat.ble Tryz.y9.bytes 1048576), e, ble_iff.2 (Nat.le_refl n), ble_iff.2 hn, forceL_eq, forceN_eq]
  rfl
theorem times_len1 (v : AV) : ∀ n, (times [v] n).length = n
  | 0 => rfl
  | n + 1 => by
    have := times_len1 v n
    show (v :: times [v] n).length = n + 1
    rw [List.length_cons, this]
end Go.Proofs
namespace Go.Ev
theorem indexSl {ty : PT ATy} {a ae : ATy} {h : AH} {b n c e i : Nat} (ha : a.d = .slice e) (he : ty.get e = some ae) (h1 : ae.size = 1) (hi : i < n) : evIndexAddr ty a (.slice b 0 n c) (.int .i64 i) h = .val (.ptr b i) h := by
  have : evIndexAddr ty a (.slice b 0 n c) (.int .i64 i) h = (oe .fail (idx (.int .i64 (i : Int)) n) fun i => forceN (Nat.add 0 (Nat.mul i ae.size)) fun o => .val (.ptr b o) h) := by
    unfold evIndexAddr elemOf
    rw [ha]
    show oe R.fail (oe none (ty.get e) fun a => some (none, a)) _ = _
    rw [he]
    rfl
  rw [this]
  have hx : idx (.int .i64 (i : Int)) n = some i := by
    show cnd (Nat.blt i n) (some i) none = _
    rw [blt_iff.2 hi]; rfl
  rw [hx, h1]
  show forceN (0 + i * 1) (fun o => R.val (AV.ptr b o) h) = _
  rw [forceN_eq, Nat.mul_one, Nat.zero_add]
end Go.Ev
namespace Go.Proofs
open Go.Ev
theorem rowT_len (l : List Int) : (rowT l).length ≤ 22 * l.length := by
  have key : ∀ r : List Int, ((r.map itoaK).flatMap ([32] ++ ·)).length ≤ 22 * r.length := by
    intro r
    induction r with
    | nil => simp
    | cons a r ih =>
      have := (itoaK_len a).1
      simp only [List.map_cons, List.flatMap_cons, List.length_append, List.length_cons, List.length_nil]
      omega
  cases l with
  | nil => simp [rowT, joinT]
  | cons a r =>
    have h1 := (itoaK_len a).1
    have h2 := key r
    show (itoaK a ++ (r.map itoaK).flatMap ([32] ++ ·)).length ≤ 22 * (r.length + 1)
    rw [List.length_append]
    omega
theorem Tryz.c18 {S : Summ} (hS : S.get 18 = none) (h16 : S.get 16 = some sItoa) (h26 : S.get 26 = some sJoin) {h : AH} (low : ∀ b x, h.t.get b = some x → b < h.next) {cv : AV} {l : List Int} (q : RowT h cv l) (hl : l.length ≤ 20000)
    (hent : ∀ x ∈ l, -9223372036854775808 ≤ x ∧ x ≤ 9223372036854775807) : RunCall Tryz.ctx S 18 [cv] h ⟨.str (rowT l), h⟩ := by
  refine WRun.calls1 (r := 2) hS Tryz.fn18 rfl rfl rfl rfl ?_
  have hO := (Mine.start low).add (.cells (times [.str []] l.length) 0)
  have hb : ((⟨h.t, h.next, h.next, []⟩ : AH).add (.cells (times [.str []] l.length) 0)).t.get h.next = some (.cells (times [.str []] l.length) 0) := get_add_self
  have hnx : ((⟨h.t, h.next, h.next, []⟩ : AH).add (.cells (times [.str []] l.length) 0)).next = h.next + 1 := rfl
  have g0 : (argsT [cv] 0 .leaf).get 0 = some cv := rfl
  generalize argsT [cv] 0 .leaf = T at g0
  have ql := q.len
  have mk : ∀ h : AH, evMakeSlice Tryz.ctx.ty Tryz.y52 (.int .i64 (l.length : Int)) (.int .i64 (l.length : Int)) h = .val (.slice h.next 0 l.length l.length) (h.add (.cells (times [.str []] l.length) 0)) := fun h => mkSlice (by omega)
  (first | refine WRun.seq (WRun.region ?_) | refine WRun.seq (WRun.seq (WRun.region ?_)) | refine WRun.region ?_ | refine WRun.seq (WRun.seq (WRun.seq (WRun.region ?_)))); ((repeat (first | refine WOps.a rfl (by simp only [reduceIte, Nat.reduceEqDiff, Nat.reduceAdd, B3, g0] <;> rfl) ?_ | refine WOps.b rfl rfl rfl (by simp only [reduceIte, Nat.reduceEqDiff, Nat.reduceAdd, B3, g0] <;> rfl) ?_)); refine WOps.nil ?_)
  (first | refine WRun.seq (WRun.region ?_) | refine WRun.seq (WRun.seq (WRun.region ?_)) | refine WRun.region ?_ | refine WRun.seq (WRun.seq (WRun.seq (WRun.region ?_)))); ((repeat (first | refine WOps.a rfl (by simp only [reduceIte, Nat.reduceEqDiff, Nat.reduceAdd, B3, g0, ql, op_makeSlice, with2_some, mk] <;> rfl) ?_ | refine WOps.b rfl rfl rfl (by simp only [reduceIte, Nat.reduceEqDiff, Nat.reduceAdd, B3, g0, ql, op_makeSlice, with2_some, mk] <;> rfl) ?_)); refine WOps.nil ?_)
  generalize ((⟨h.t, h.next, h.next, []⟩ : AH).add (.cells (times [.str []] l.length) 0)) = H at hO hb hnx
  (first | refine WRun.seq (WRun.region ?_) | refine WRun.seq (WRun.seq (WRun.region ?_)) | refine WRun.region ?_ | refine WRun.seq (WRun.seq (WRun.seq (WRun.region ?_)))); ((repeat (first | refine WOps.a rfl (by simp only [reduceIte, Nat.reduceEqDiff, Nat.reduceAdd, B3, g0, ql] <;> rfl) ?_ | refine WOps.b rfl rfl rfl (by simp only [reduceIte, Nat.reduceEqDiff, Nat.reduceAdd, B3, g0, ql] <;> rfl) ?_)); refine WOps.nil ?_)
  refine (show WRun Tryz.ctx S 18 Tryz.f18.ntmps none _ _ _ _ _ from ?_)
  refine WRun.block ?_
  refine WRun.loop (I := fun m T h' => ∃ (x : Nat) (c : List AV), m + x = l.length ∧ Mine h h' ∧ h'.next = h.next + 1 ∧ h'.t.get h.next = some (.cells c 0) ∧ c.length = l.length ∧ (∀ (i : Nat) (y : Int), i < x → l[i]? = some y → c[i]? = some (.str (itoaK y))) ∧
    T.get 3 = some (.slice h.next 0 l.length l.length) ∧ T.get 9 = some cv ∧ T.get 10 = some (.int .i64 l.length) ∧ T.get 11 = some (.int .i64 x)) (m := l.length) ?_
    ⟨0, _, by omega, hO, hnx, hb, times_len1 _ _, fun i y hi => by omega, (by simp only [reduceIte, Nat.reduceEqDiff, Nat.reduceAdd, B3, g0] <;> rfl), (by simp only [reduceIte, Nat.reduceEqDiff, Nat.reduceAdd, B3, g0] <;> rfl), (by simp only [reduceIte, Nat.reduceEqDiff, Nat.reduceAdd, B3, g0] <;> rfl), (by simp only [reduceIte, Nat.reduceEqDiff, Nat.reduceAdd, B3, g0] <;> rfl)⟩
  clear hO hb hnx g0
  rintro m T H1 ⟨x, c, hm, O1, n1, b1, cl, hc, t3, t9, t10, t11⟩
  by_cases hx : x < l.length
  · have hlt : ((x : Int) < (l.length : Int)) = True := by simp; exact hx
    have ad := add1 x (by omega)
    obtain ⟨y, hy⟩ : ∃ y, l[x]? = some y := ⟨_, List.getElem?_eq_getElem hx⟩
    obtain ⟨y0, y1⟩ := hent y (List.mem_of_getElem? hy)
    obtain ⟨bb, o, a1, l1⟩ := q.ent x y hy H1 O1.ext
    (first | refine WRun.seq (WRun.region ?_) | refine WRun.seq (WRun.seq (WRun.region ?_)) | refine WRun.region ?_ | refine WRun.seq (WRun.seq (WRun.seq (WRun.region ?_)))); ((repeat (first | refine WOps.a rfl (by simp only [reduceIte, Nat.reduceEqDiff, Nat.reduceAdd, B3, t10, t11, hlt] <;> rfl) ?_ | refine WOps.b rfl rfl rfl (by simp only [reduceIte, Nat.reduceEqDiff, Nat.reduceAdd, B3, t10, t11, hlt] <;> rfl) ?_)); refine WOps.nil ?_)
    (first | refine WRun.condT (by simp only [reduceIte, Nat.reduceEqDiff, Nat.reduceAdd, B3, hlt] <;> rfl) ?_ | refine WRun.seq (WRun.condT (by simp only [reduceIte, Nat.reduceEqDiff, Nat.reduceAdd, B3, hlt] <;> rfl) ?_))
    refine WRun.skip ?_
    refine WRun.seq (WRun.block ?_)
    (first | refine WRun.seq (WRun.region ?_) | refine WRun.seq (WRun.seq (WRun.region ?_)) | refine WRun.region ?_ | refine WRun.seq (WRun.seq (WRun.seq (WRun.region ?_)))); ((repeat (first | refine WOps.a rfl (by simp only [reduceIte, Nat.reduceEqDiff, Nat.reduceAdd, B2, t9, t11, a1, l1] <;> rfl) ?_ | refine WOps.b rfl rfl rfl (by simp only [reduceIte, Nat.reduceEqDiff, Nat.reduceAdd, B2, t9, t11, a1, l1] <;> rfl) ?_)); refine WOps.nil ?_)
    refine WRun.region ?_
    iterate 3 (first | refine WOps.a rfl (by simp only [reduceIte, Nat.reduceEqDiff, Nat.reduceAdd, B3, t3] <;> rfl) ?_ | refine WOps.vG ((guard_bool rfl rfl (by simp only [reduceIte, Nat.reduceEqDiff, Nat.reduceAdd, B3, t3] <;> rfl)).trans rfl) (by simp only [reduceIte, Nat.reduceEqDiff, Nat.reduceAdd, B3, t3] <;> rfl) rfl ?_ | refine WOps.nG (by first | exact (guard_bool rfl rfl (by simp only [reduceIte, Nat.reduceEqDiff, Nat.reduceAdd, B3, t3] <;> rfl)).trans rfl | exact guard_not rfl rfl (by simp only [reduceIte, Nat.reduceEqDiff, Nat.reduceAdd, B3, t3] <;> rfl)) rfl ?_)
    refine WOps.cN (op_call1 (v := .int .i64 y) (by simp only [reduceIte, Nat.reduceEqDiff, Nat.reduceAdd, B3, t3] <;> rfl) Tryz.fn16 Tryz.ex16) (Tryz.cItoa h16 y0 y1 _) rfl ?_
    have ia : evIndexAddr Tryz.ctx.ty Tryz.y52 (.slice h.next 0 l.length l.length) (.int .i64 (x : Int)) H1 = .val (.ptr h.next x) H1 := indexSl rfl Tryz.ty9 rfl hx
    have sw : evStore Tryz.y9 (.ptr h.next x) (.str (itoaK y)) H1 = .skip (H1.set h.next (.cells (c.set x (.str (itoaK y))) 0)) := store_cells1 rfl rfl rfl b1 (by omega) (by omega)
    ((repeat (first | refine WOps.a rfl (by simp only [reduceIte, Nat.reduceEqDiff, Nat.reduceAdd, B3, t3, ia, op_storeE, sw] <;> rfl) ?_ | refine WOps.b rfl rfl rfl (by simp only [reduceIte, Nat.reduceEqDiff, Nat.reduceAdd, B3, t3, ia, op_storeE, sw] <;> rfl) ?_)); refine WOps.nil ?_)
    (first | refine WRun.seq (WRun.region ?_) | refine WRun.seq (WRun.seq (WRun.region ?_)) | refine WRun.region ?_ | refine WRun.seq (WRun.seq (WRun.seq (WRun.region ?_)))); ((repeat (first | refine WOps.a rfl (by simp only [reduceIte, Nat.reduceEqDiff, Nat.reduceAdd, B3, t11, ad] <;> rfl) ?_ | refine WOps.b rfl rfl rfl (by simp only [reduceIte, Nat.reduceEqDiff, Nat.reduceAdd, B3, t11, ad] <;> rfl) ?_)); refine WOps.nil ?_)
    refine ⟨rfl, m - 1, by omega, x + 1, c.set x (.str (itoaK y)), by omega, O1.set (Nat.le_refl _) (by omega) _, n1, by rw [get_set, if_pos rfl], by rw [List.length_set, cl], fun i z hi hz => ?_, (by simp only [reduceIte, Nat.reduceEqDiff, Nat.reduceAdd, B3, t3] <;> rfl), (by simp only [reduceIte, Nat.reduceEqDiff, Nat.reduceAdd, B3, t9] <;> rfl), (by simp only [reduceIte, Nat.reduceEqDiff, Nat.reduceAdd, B3, t10] <;> rfl), (by simp only [reduceIte, Nat.reduceEqDiff, Nat.reduceAdd, B3, t11] <;> rfl)⟩
    by_cases e : i = x
    · subst e
      rw [hy] at hz; cases hz
      rw [List.getElem?_set_self (by omega)]
    · rw [List.getElem?_set_ne (by omega)]
      exact hc i z (by omega) hz
  · have hlt : ((x : Int) < (l.length : Int)) = False := by simp; omega
    (first | refine WRun.seq (WRun.region ?_) | refine WRun.seq (WRun.seq (WRun.region ?_)) | refine WRun.region ?_ | refine WRun.seq (WRun.seq (WRun.seq (WRun.region ?_)))); ((repeat (first | refine WOps.a rfl (by simp only [reduceIte, Nat.reduceEqDiff, Nat.reduceAdd, B3, t10, t11, hlt] <;> rfl) ?_ | refine WOps.b rfl rfl rfl (by simp only [reduceIte, Nat.reduceEqDiff, Nat.reduceAdd, B3, t10, t11, hlt] <;> rfl) ?_)); refine WOps.nil ?_)
    (first | refine WRun.condF (by simp only [reduceIte, Nat.reduceEqDiff, Nat.reduceAdd, B3, hlt] <;> rfl) ?_ | refine WRun.seq (WRun.condF (by simp only [reduceIte, Nat.reduceEqDiff, Nat.reduceAdd, B3, hlt] <;> rfl) ?_))
    refine WRun.exit ?_
    refine WRun.seq (WRun.region ?_)
    iterate 1 (first | refine WOps.a rfl (by simp only [reduceIte, Nat.reduceEqDiff, Nat.reduceAdd, B3, t3] <;> rfl) ?_ | refine WOps.vG ((guard_bool rfl rfl (by simp only [reduceIte, Nat.reduceEqDiff, Nat.reduceAdd, B3, t3] <;> rfl)).trans rfl) (by simp only [reduceIte, Nat.reduceEqDiff, Nat.reduceAdd, B3, t3] <;> rfl) rfl ?_ | refine WOps.nG (by first | exact (guard_bool rfl rfl (by simp only [reduceIte, Nat.reduceEqDiff, Nat.reduceAdd, B3, t3] <;> rfl)).trans rfl | exact guard_not rfl rfl (by simp only [reduceIte, Nat.reduceEqDiff, Nat.reduceAdd, B3, t3] <;> rfl)) rfl ?_)
    have r : RowS H1 (.slice h.next 0 l.length l.length) (l.map itoaK) := .inr ⟨h.next, 0, l.length, c, 0, .inl ⟨by rw [List.length_map], by rw [List.length_map]; exact Nat.le_refl _⟩, b1, fun i z hz => by
      rw [List.getElem?_map, Option.map_eq_some_iff] at hz
      obtain ⟨y, hy, rfl⟩ := hz
      rw [Nat.zero_add]
      exact hc i y (by have := (List.getElem?_eq_some_iff.1 hy).1; omega) hy⟩
    refine WOps.cN (op_call2 (v := .slice h.next 0 l.length l.length) (u := .str [32]) (by simp only [reduceIte, Nat.reduceEqDiff, Nat.reduceAdd, B3, t3] <;> rfl) rfl Tryz.fn26 Tryz.ex26) (RunCall.summ h26 (sJoin_eq r (by rw [List.length_map]; omega) ?_)) rfl ?_
    · have := rowT_len l
      show (rowT l).length ≤ _
      omega
    ((repeat (first | refine WOps.a rfl (by simp only [reduceIte, Nat.reduceEqDiff, Nat.reduceAdd, B3, t3] <;> rfl) ?_ | refine WOps.b rfl rfl rfl (by simp only [reduceIte, Nat.reduceEqDiff, Nat.reduceAdd, B3, t3] <;> rfl) ?_)); refine WOps.nil ?_)
    exact WRun.ret ⟨trivial, rfl, O1.log, (by simp only [reduceIte, Nat.reduceEqDiff, Nat.reduceAdd, B3, t3] <;> rfl)⟩
end Go.Proofs
namespace Go.Proofs
open Go.Ev
set_option maxRecDepth 100000
theorem tabT_len (t : List (List Int)) : (tabT t).length ≤ wt t := by
  have key : ∀ r : List (List Int), ((r.map rowT).flatMap ([59, 32] ++ ·)).length ≤ wt r := by
    intro r
    induction r with
    | nil => simp [wt]
    | cons a r ih =>
      have := rowT_len a
      have e : wt (a :: r) = 2 + 22 * a.length + wt r := by unfold wt; simp
      rw [e]
      simp only [List.map_cons, List.flatMap_cons, List.length_append, List.length_cons, List.length_nil]
      omega
  cases t with
  | nil => simp [tabT, joinT]
  | cons a r =>
    have h1 := rowT_len a
    have h2 := key r
    have e : wt (a :: r) = 2 + 22 * a.length + wt r := by unfold wt; simp
    show (rowT a ++ (r.map rowT).flatMap ([59, 32] ++ ·)).length ≤ _
    rw [List.length_append, e]
    omega
/-- The first words. -/
def wordsL : List (List UInt8) := [[99,111,109,112,111,110,101,110,116,115], [108,105,110,107,105,110,103], [99,111,108,111,114,115], [113,117,97,110,100,108,101], [104,111,109,115], [106,111,110,101,115], [99,111,110,119,97,121], [104,111,109,102,108,121], [107,104,111,118,97,110,111,118]]
def wordT (k : Int) : List UInt8 := wordsL[(k - 1).toNat]?.getD []
theorem wordT_len (k : Int) : (wordT k).length ≤ 10 := by
  unfold wordT
  generalize (k - 1).toNat = i
  rcases i with _ | _ | _ | _ | _ | _ | _ | _ | _ | i <;> simp [wordsL]
theorem Tryz.c15 {S : Summ} (hS : S.get 15 = none) {h : AH} (low : ∀ b x, h.t.get b = some x → b < h.next) {k : Int} (h1 : 1 ≤ k) (h9 : k ≤ 9) : RunCall Tryz.ctx S 15 [.int .i64 k] h ⟨.str (wordT k), h⟩ := by
  refine WRun.calls1 (r := 2) hS Tryz.fn15 rfl rfl rfl rfl ?_
  have zz : Tryz.y80.zero = [.str [], .str [], .str [], .str [], .str [], .str [], .str [], .str [], .str []] := rfl
  have hO := (Mine.start low).add (.cells [.str [], .str [], .str [], .str [], .str [], .str [], .str [], .str [], .str []] (fzNew 80))
  have hb : ((⟨h.t, h.next, h.next, []⟩ : AH).add (.cells [.str [], .str [], .str [], .str [], .str [], .str [], .str [], .str [], .str []] (fzNew 80))).t.get h.next = some (.cells [.str [], .str [], .str [], .str [], .str [], .str [], .str [], .str [], .str []] (fzNew 80)) := get_add_self
  have hnx : ((⟨h.t, h.next, h.next, []⟩ : AH).add (.cells [.str [], .str [], .str [], .str [], .str [], .str [], .str [], .str [], .str []] (fzNew 80))).next = h.next + 1 := rfl
  have g0 : (argsT [.int .i64 k] 0 .leaf).get 0 = some (.int .i64 k) := rfl
  generalize argsT [.int .i64 k] 0 .leaf = T at g0
  (first | refine WRun.seq (WRun.region ?_) | refine WRun.seq (WRun.seq (WRun.region ?_)) | refine WRun.region ?_ | refine WRun.seq (WRun.seq (WRun.seq (WRun.region ?_)))); ((repeat (first | refine WOps.a rfl (by simp only [reduceIte, Nat.reduceEqDiff, Nat.reduceAdd, B3, g0] <;> rfl) ?_ | refine WOps.b rfl rfl rfl (by simp only [reduceIte, Nat.reduceEqDiff, Nat.reduceAdd, B3, g0] <;> rfl) ?_)); refine WOps.nil ?_)
  refine WRun.seq (WRun.region ?_)
  refine WOps.vN (v := .agg (wordsL.map .str)) (by rfl) rfl ?_
  iterate 1 (first | refine WOps.a rfl (by simp only [reduceIte, Nat.reduceEqDiff, Nat.reduceAdd, B3, zz] <;> rfl) ?_ | refine WOps.vG ((guard_bool rfl rfl (by simp only [reduceIte, Nat.reduceEqDiff, Nat.reduceAdd, B3, zz] <;> rfl)).trans rfl) (by simp only [reduceIte, Nat.reduceEqDiff, Nat.reduceAdd, B3, zz] <;> rfl) rfl ?_ | refine WOps.nG (by first | exact (guard_bool rfl rfl (by simp only [reduceIte, Nat.reduceEqDiff, Nat.reduceAdd, B3, zz] <;> rfl)).trans rfl | exact guard_not rfl rfl (by simp only [reduceIte, Nat.reduceEqDiff, Nat.reduceAdd, B3, zz] <;> rfl)) rfl ?_)
  generalize ((⟨h.t, h.next, h.next, []⟩ : AH).add (.cells [.str [], .str [], .str [], .str [], .str [], .str [], .str [], .str [], .str []] (fzNew 80))) = H at hO hb hnx
  have fz81 : fzNew 80 = 81 := by decide +kernel
  have sw : evStore Tryz.y80 (.ptr h.next 0) (.agg (wordsL.map .str)) H = .skip (H.set h.next (.cells (wordsL.map .str) (fzNew 80))) := by
    unfold evStore
    show R.ofSkip (writeCells H h.next 0 (wordsL.map .str)) = _
    have : writeCells H h.next 0 (wordsL.map .str) = some (H.set h.next (.cells (wordsL.map .str) (fzNew 80))) := by
      unfold writeCells cellsAt
      rw [hb, fz81]
      rfl
    rw [this]
    rfl
  ((repeat (first | refine WOps.a rfl (by simp only [reduceIte, Nat.reduceEqDiff, Nat.reduceAdd, B3, g0, op_storeE, sw] <;> rfl) ?_ | refine WOps.b rfl rfl rfl (by simp only [reduceIte, Nat.reduceEqDiff, Nat.reduceAdd, B3, g0, op_storeE, sw] <;> rfl) ?_)); refine WOps.nil ?_)
  have hO2 : Mine h (H.set h.next (.cells (wordsL.map .str) (fzNew 80))) := hO.set (Nat.le_refl _) (by omega) _
  have hb2 : (H.set h.next (.cells (wordsL.map .str) (fzNew 80))).t.get h.next = some (.cells (wordsL.map .str) (fzNew 80)) := by rw [get_set, if_pos rfl]
  generalize (H.set h.next (.cells (wordsL.map .str) (fzNew 80))) = H2 at hO2 hb2
  obtain ⟨i, hi⟩ : ∃ i : Nat, k = i + 1 := ⟨(k - 1).toNat, by omega⟩
  have sb : ∀ (t : TypeId) (c : Bool), binV Tryz.ctx.ty .sub t c (.int .i64 k) (.int .i64 1) = some (.int .i64 (i : Int)) := fun t c => by rw [bin_sub (by omega) (by omega)]; congr 2; omega
  have hi9 : i < 9 := by omega
  have ia : evIndexAddr Tryz.ctx.ty Tryz.y80 (.ptr h.next 0) (.int .i64 (i : Int)) H2 = .val (.ptr h.next i) H2 := by
    have := indexArr (ty := Tryz.ctx.ty) (a := Tryz.y80) (ae := Tryz.y9) (h := H2) (b := h.next) (off := 0) (n := 9) (e := 9) rfl Tryz.ty9 rfl hi9
    rw [Nat.zero_add] at this
    exact this
  have hw : wordT k = (wordsL[i]?).getD [] := by unfold wordT; rw [show (k - 1).toNat = i by omega]
  have hci : (wordsL.map AV.str)[i]? = some (.str (wordT k)) := by
    rw [List.getElem?_map, hw, List.getElem?_eq_getElem (show i < wordsL.length from hi9)]
    rfl
  have ld : evLoad Tryz.y9 (.ptr h.next i) H2 = .val (.str (wordT k)) H2 := load_word rfl hb2 hci
  (first | refine WRun.seq (WRun.region ?_) | refine WRun.seq (WRun.seq (WRun.region ?_)) | refine WRun.region ?_ | refine WRun.seq (WRun.seq (WRun.seq (WRun.region ?_)))); ((repeat (first | refine WOps.a rfl (by simp only [reduceIte, Nat.reduceEqDiff, Nat.reduceAdd, B2, g0, sb, ia, ld] <;> rfl) ?_ | refine WOps.b rfl rfl rfl (by simp only [reduceIte, Nat.reduceEqDiff, Nat.reduceAdd, B2, g0, sb, ia, ld] <;> rfl) ?_)); refine WOps.nil ?_)
  exact WRun.ret ⟨trivial, rfl, hO2.log, (by simp only [reduceIte, Nat.reduceEqDiff, Nat.reduceAdd, B3, g0] <;> rfl)⟩
end Go.Proofs
namespace Go.Proofs
open Go.Ev
set_option maxRecDepth 100000
/-- certificate.valid of a proof that is neither by colors, by a quandle nor by homomorphisms. -/
theorem Tryz.c14o {S : Summ} (hS : S.get 14 = none) {h : AH} {k m : Int} {tv cv : AV} {tl cl : Nat}
    (ht : ∀ h' : AH, evLen Tryz.ctx.ty Tryz.y22 tv h' = some (.int .i64 tl)) (hc : ∀ h' : AH, evLen Tryz.ctx.ty Tryz.y25 cv h' = some (.int .i64 cl)) (h3 : decide (k = 3) = false) (h4 : decide (k = 4) = false) (h5 : decide (k = 5) = false) :
    RunCall Tryz.ctx S 14 [.agg [.int .i64 k, .int .i64 m, tv, cv]] h ⟨.bool (decide ((tl : Int) = 0) && decide (m = 0) && decide ((cl : Int) = 0) && decide (1 ≤ k) && decide (k ≤ 9)), h⟩ := by
  refine WRun.calls1 (r := 2) hS Tryz.fn14 rfl rfl rfl rfl ?_
  have g0 : (argsT [.agg [.int .i64 k, .int .i64 m, tv, cv]] 0 .leaf).get 0 = some (.agg [.int .i64 k, .int .i64 m, tv, cv]) := rfl
  generalize argsT [.agg [.int .i64 k, .int .i64 m, tv, cv]] 0 .leaf = T at g0
  (first | refine WRun.seq (WRun.region ?_) | refine WRun.seq (WRun.seq (WRun.region ?_)) | refine WRun.region ?_ | refine WRun.seq (WRun.seq (WRun.seq (WRun.region ?_)))); ((repeat (first | refine WOps.a rfl (by simp only [reduceIte, Nat.reduceEqDiff, Nat.reduceAdd, Bm, g0] <;> rfl) ?_ | refine WOps.b rfl rfl rfl (by simp only [reduceIte, Nat.reduceEqDiff, Nat.reduceAdd, Bm, g0] <;> rfl) ?_)); refine WOps.nil ?_)
  (first | refine WRun.seq (WRun.region ?_) | refine WRun.seq (WRun.seq (WRun.region ?_)) | refine WRun.region ?_ | refine WRun.seq (WRun.seq (WRun.seq (WRun.region ?_)))); ((repeat (first | refine WOps.a rfl (by simp only [reduceIte, Nat.reduceEqDiff, Nat.reduceAdd, Bm, g0, ht] <;> rfl) ?_ | refine WOps.b rfl rfl rfl (by simp only [reduceIte, Nat.reduceEqDiff, Nat.reduceAdd, Bm, g0, ht] <;> rfl) ?_)); refine WOps.nil ?_)
  (first | refine WRun.seq (WRun.region ?_) | refine WRun.seq (WRun.seq (WRun.region ?_)) | refine WRun.region ?_ | refine WRun.seq (WRun.seq (WRun.seq (WRun.region ?_)))); ((repeat (first | refine WOps.a rfl (by simp only [reduceIte, Nat.reduceEqDiff, Nat.reduceAdd, Bm, g0] <;> rfl) ?_ | refine WOps.b rfl rfl rfl (by simp only [reduceIte, Nat.reduceEqDiff, Nat.reduceAdd, Bm, g0] <;> rfl) ?_)); refine WOps.nil ?_)
  refine WRun.block ?_
  (first | refine WRun.seq (WRun.region ?_) | refine WRun.seq (WRun.seq (WRun.region ?_)) | refine WRun.region ?_ | refine WRun.seq (WRun.seq (WRun.seq (WRun.region ?_)))); ((repeat (first | refine WOps.a rfl (by simp only [reduceIte, Nat.reduceEqDiff, Nat.reduceAdd, Bm, g0, h3] <;> rfl) ?_ | refine WOps.b rfl rfl rfl (by simp only [reduceIte, Nat.reduceEqDiff, Nat.reduceAdd, Bm, g0, h3] <;> rfl) ?_)); refine WOps.nil ?_)
  (first | refine WRun.condF (by simp only [reduceIte, Nat.reduceEqDiff, Nat.reduceAdd, Bm, h3] <;> rfl) ?_ | refine WRun.seq (WRun.condF (by simp only [reduceIte, Nat.reduceEqDiff, Nat.reduceAdd, Bm, h3] <;> rfl) ?_))
  (first | refine WRun.seq (WRun.region ?_) | refine WRun.seq (WRun.seq (WRun.region ?_)) | refine WRun.region ?_ | refine WRun.seq (WRun.seq (WRun.seq (WRun.region ?_)))); ((repeat (first | refine WOps.a rfl (by simp only [reduceIte, Nat.reduceEqDiff, Nat.reduceAdd, Bm, g0, h4] <;> rfl) ?_ | refine WOps.b rfl rfl rfl (by simp only [reduceIte, Nat.reduceEqDiff, Nat.reduceAdd, Bm, g0, h4] <;> rfl) ?_)); refine WOps.nil ?_)
  (first | refine WRun.condF (by simp only [reduceIte, Nat.reduceEqDiff, Nat.reduceAdd, Bm, h4] <;> rfl) ?_ | refine WRun.seq (WRun.condF (by simp only [reduceIte, Nat.reduceEqDiff, Nat.reduceAdd, Bm, h4] <;> rfl) ?_))
  (first | refine WRun.seq (WRun.region ?_) | refine WRun.seq (WRun.seq (WRun.region ?_)) | refine WRun.region ?_ | refine WRun.seq (WRun.seq (WRun.seq (WRun.region ?_)))); ((repeat (first | refine WOps.a rfl (by simp only [reduceIte, Nat.reduceEqDiff, Nat.reduceAdd, Bm, g0, h5] <;> rfl) ?_ | refine WOps.b rfl rfl rfl (by simp only [reduceIte, Nat.reduceEqDiff, Nat.reduceAdd, Bm, g0, h5] <;> rfl) ?_)); refine WOps.nil ?_)
  (first | refine WRun.condF (by simp only [reduceIte, Nat.reduceEqDiff, Nat.reduceAdd, Bm, h5] <;> rfl) ?_ | refine WRun.seq (WRun.condF (by simp only [reduceIte, Nat.reduceEqDiff, Nat.reduceAdd, Bm, h5] <;> rfl) ?_))
  refine WRun.skip ?_
  cases d1 : decide ((tl : Int) = 0)
  · (first | refine WRun.seq (WRun.region ?_) | refine WRun.seq (WRun.seq (WRun.region ?_)) | refine WRun.region ?_ | refine WRun.seq (WRun.seq (WRun.seq (WRun.region ?_)))); ((repeat (first | refine WOps.a rfl (by simp only [reduceIte, Nat.reduceEqDiff, Nat.reduceAdd, Bm, g0, hc, d1] <;> rfl) ?_ | refine WOps.b rfl rfl rfl (by simp only [reduceIte, Nat.reduceEqDiff, Nat.reduceAdd, Bm, g0, hc, d1] <;> rfl) ?_)); refine WOps.nil ?_)
    exact WRun.ret ⟨trivial, rfl, rfl, (by simp only [reduceIte, Nat.reduceEqDiff, Nat.reduceAdd, Bm, d1] <;> rfl)⟩
  cases d2 : decide (m = 0)
  · (first | refine WRun.seq (WRun.region ?_) | refine WRun.seq (WRun.seq (WRun.region ?_)) | refine WRun.region ?_ | refine WRun.seq (WRun.seq (WRun.seq (WRun.region ?_)))); ((repeat (first | refine WOps.a rfl (by simp only [reduceIte, Nat.reduceEqDiff, Nat.reduceAdd, Bm, g0, hc, d1, d2] <;> rfl) ?_ | refine WOps.b rfl rfl rfl (by simp only [reduceIte, Nat.reduceEqDiff, Nat.reduceAdd, Bm, g0, hc, d1, d2] <;> rfl) ?_)); refine WOps.nil ?_)
    exact WRun.ret ⟨trivial, rfl, rfl, (by simp only [reduceIte, Nat.reduceEqDiff, Nat.reduceAdd, Bm, d1, d2] <;> rfl)⟩
  cases d3 : decide ((cl : Int) = 0)
  · (first | refine WRun.seq (WRun.region ?_) | refine WRun.seq (WRun.seq (WRun.region ?_)) | refine WRun.region ?_ | refine WRun.seq (WRun.seq (WRun.seq (WRun.region ?_)))); ((repeat (first | refine WOps.a rfl (by simp only [reduceIte, Nat.reduceEqDiff, Nat.reduceAdd, Bm, g0, hc, d1, d2, d3] <;> rfl) ?_ | refine WOps.b rfl rfl rfl (by simp only [reduceIte, Nat.reduceEqDiff, Nat.reduceAdd, Bm, g0, hc, d1, d2, d3] <;> rfl) ?_)); refine WOps.nil ?_)
    exact WRun.ret ⟨trivial, rfl, rfl, (by simp only [reduceIte, Nat.reduceEqDiff, Nat.reduceAdd, Bm, d1, d2, d3] <;> rfl)⟩
  cases d4 : decide (1 ≤ k)
  · (first | refine WRun.seq (WRun.region ?_) | refine WRun.seq (WRun.seq (WRun.region ?_)) | refine WRun.region ?_ | refine WRun.seq (WRun.seq (WRun.seq (WRun.region ?_)))); ((repeat (first | refine WOps.a rfl (by simp only [reduceIte, Nat.reduceEqDiff, Nat.reduceAdd, Bm, g0, hc, d1, d2, d3, d4] <;> rfl) ?_ | refine WOps.b rfl rfl rfl (by simp only [reduceIte, Nat.reduceEqDiff, Nat.reduceAdd, Bm, g0, hc, d1, d2, d3, d4] <;> rfl) ?_)); refine WOps.nil ?_)
    exact WRun.ret ⟨trivial, rfl, rfl, (by simp only [reduceIte, Nat.reduceEqDiff, Nat.reduceAdd, Bm, d1, d2, d3, d4] <;> rfl)⟩
  cases d5 : decide (k ≤ 9)
  · (first | refine WRun.seq (WRun.region ?_) | refine WRun.seq (WRun.seq (WRun.region ?_)) | refine WRun.region ?_ | refine WRun.seq (WRun.seq (WRun.seq (WRun.region ?_)))); ((repeat (first | refine WOps.a rfl (by simp only [reduceIte, Nat.reduceEqDiff, Nat.reduceAdd, Bm, g0, hc, d1, d2, d3, d4, d5] <;> rfl) ?_ | refine WOps.b rfl rfl rfl (by simp only [reduceIte, Nat.reduceEqDiff, Nat.reduceAdd, Bm, g0, hc, d1, d2, d3, d4, d5] <;> rfl) ?_)); refine WOps.nil ?_)
    exact WRun.ret ⟨trivial, rfl, rfl, (by simp only [reduceIte, Nat.reduceEqDiff, Nat.reduceAdd, Bm, d1, d2, d3, d4, d5] <;> rfl)⟩
  (first | refine WRun.seq (WRun.region ?_) | refine WRun.seq (WRun.seq (WRun.region ?_)) | refine WRun.region ?_ | refine WRun.seq (WRun.seq (WRun.seq (WRun.region ?_)))); ((repeat (first | refine WOps.a rfl (by simp only [reduceIte, Nat.reduceEqDiff, Nat.reduceAdd, Bm, g0, hc, d1, d2, d3, d4, d5] <;> rfl) ?_ | refine WOps.b rfl rfl rfl (by simp only [reduceIte, Nat.reduceEqDiff, Nat.reduceAdd, Bm, g0, hc, d1, d2, d3, d4, d5] <;> rfl) ?_)); refine WOps.nil ?_)
  exact WRun.ret ⟨trivial, rfl, rfl, (by simp only [reduceIte, Nat.reduceEqDiff, Nat.reduceAdd, Bm, d1, d2, d3, d4, d5] <;> rfl)⟩
end Go.Proofs
namespace Go.Proofs
open Go.Ev
/-- .. by colors. -/
theorem Tryz.c14c {S : Summ} (hS : S.get 14 = none) {h : AH} {m : Int} {tv cv : AV} {tl cl : Nat}
    (ht : ∀ h' : AH, evLen Tryz.ctx.ty Tryz.y22 tv h' = some (.int .i64 tl)) (hc : ∀ h' : AH, evLen Tryz.ctx.ty Tryz.y25 cv h' = some (.int .i64 cl)) :
    RunCall Tryz.ctx S 14 [.agg [.int .i64 3, .int .i64 m, tv, cv]] h ⟨.bool (decide ((tl : Int) = 0) && decide ((cl : Int) = 0) && decide (1 ≤ m) && decide (m ≤ 1000)), h⟩ := by
  refine WRun.calls1 (r := 2) hS Tryz.fn14 rfl rfl rfl rfl ?_
  have g0 : (argsT [.agg [.int .i64 3, .int .i64 m, tv, cv]] 0 .leaf).get 0 = some (.agg [.int .i64 3, .int .i64 m, tv, cv]) := rfl
  generalize argsT [.agg [.int .i64 3, .int .i64 m, tv, cv]] 0 .leaf = T at g0
  (first | refine WRun.seq (WRun.region ?_) | refine WRun.seq (WRun.seq (WRun.region ?_)) | refine WRun.region ?_ | refine WRun.seq (WRun.seq (WRun.seq (WRun.region ?_)))); ((repeat (first | refine WOps.a rfl (by simp only [reduceIte, Nat.reduceEqDiff, Nat.reduceAdd, Bm, g0] <;> rfl) ?_ | refine WOps.b rfl rfl rfl (by simp only [reduceIte, Nat.reduceEqDiff, Nat.reduceAdd, Bm, g0] <;> rfl) ?_)); refine WOps.nil ?_)
  (first | refine WRun.seq (WRun.region ?_) | refine WRun.seq (WRun.seq (WRun.region ?_)) | refine WRun.region ?_ | refine WRun.seq (WRun.seq (WRun.seq (WRun.region ?_)))); ((repeat (first | refine WOps.a rfl (by simp only [reduceIte, Nat.reduceEqDiff, Nat.reduceAdd, Bm, g0, ht] <;> rfl) ?_ | refine WOps.b rfl rfl rfl (by simp only [reduceIte, Nat.reduceEqDiff, Nat.reduceAdd, Bm, g0, ht] <;> rfl) ?_)); refine WOps.nil ?_)
  (first | refine WRun.seq (WRun.region ?_) | refine WRun.seq (WRun.seq (WRun.region ?_)) | refine WRun.region ?_ | refine WRun.seq (WRun.seq (WRun.seq (WRun.region ?_)))); ((repeat (first | refine WOps.a rfl (by simp only [reduceIte, Nat.reduceEqDiff, Nat.reduceAdd, Bm, g0] <;> rfl) ?_ | refine WOps.b rfl rfl rfl (by simp only [reduceIte, Nat.reduceEqDiff, Nat.reduceAdd, Bm, g0] <;> rfl) ?_)); refine WOps.nil ?_)
  refine WRun.block ?_
  (first | refine WRun.seq (WRun.region ?_) | refine WRun.seq (WRun.seq (WRun.region ?_)) | refine WRun.region ?_ | refine WRun.seq (WRun.seq (WRun.seq (WRun.region ?_)))); ((repeat (first | refine WOps.a rfl (by simp only [reduceIte, Nat.reduceEqDiff, Nat.reduceAdd, Bm, g0] <;> rfl) ?_ | refine WOps.b rfl rfl rfl (by simp only [reduceIte, Nat.reduceEqDiff, Nat.reduceAdd, Bm, g0] <;> rfl) ?_)); refine WOps.nil ?_)
  (first | refine WRun.condT (by simp only [reduceIte, Nat.reduceEqDiff, Nat.reduceAdd, Bm, g0] <;> rfl) ?_ | refine WRun.seq (WRun.condT (by simp only [reduceIte, Nat.reduceEqDiff, Nat.reduceAdd, Bm, g0] <;> rfl) ?_))
  cases d1 : decide ((tl : Int) = 0)
  · (first | refine WRun.seq (WRun.region ?_) | refine WRun.seq (WRun.seq (WRun.region ?_)) | refine WRun.region ?_ | refine WRun.seq (WRun.seq (WRun.seq (WRun.region ?_)))); ((repeat (first | refine WOps.a rfl (by simp only [reduceIte, Nat.reduceEqDiff, Nat.reduceAdd, Bm, g0, hc, d1] <;> rfl) ?_ | refine WOps.b rfl rfl rfl (by simp only [reduceIte, Nat.reduceEqDiff, Nat.reduceAdd, Bm, g0, hc, d1] <;> rfl) ?_)); refine WOps.nil ?_)
    exact WRun.ret ⟨trivial, rfl, rfl, (by simp only [reduceIte, Nat.reduceEqDiff, Nat.reduceAdd, Bm, d1] <;> rfl)⟩
  cases d2 : decide ((cl : Int) = 0)
  · (first | refine WRun.seq (WRun.region ?_) | refine WRun.seq (WRun.seq (WRun.region ?_)) | refine WRun.region ?_ | refine WRun.seq (WRun.seq (WRun.seq (WRun.region ?_)))); ((repeat (first | refine WOps.a rfl (by simp only [reduceIte, Nat.reduceEqDiff, Nat.reduceAdd, Bm, g0, hc, d1, d2] <;> rfl) ?_ | refine WOps.b rfl rfl rfl (by simp only [reduceIte, Nat.reduceEqDiff, Nat.reduceAdd, Bm, g0, hc, d1, d2] <;> rfl) ?_)); refine WOps.nil ?_)
    exact WRun.ret ⟨trivial, rfl, rfl, (by simp only [reduceIte, Nat.reduceEqDiff, Nat.reduceAdd, Bm, d1, d2] <;> rfl)⟩
  cases d3 : decide (1 ≤ m)
  · (first | refine WRun.seq (WRun.region ?_) | refine WRun.seq (WRun.seq (WRun.region ?_)) | refine WRun.region ?_ | refine WRun.seq (WRun.seq (WRun.seq (WRun.region ?_)))); ((repeat (first | refine WOps.a rfl (by simp only [reduceIte, Nat.reduceEqDiff, Nat.reduceAdd, Bm, g0, hc, d1, d2, d3] <;> rfl) ?_ | refine WOps.b rfl rfl rfl (by simp only [reduceIte, Nat.reduceEqDiff, Nat.reduceAdd, Bm, g0, hc, d1, d2, d3] <;> rfl) ?_)); refine WOps.nil ?_)
    exact WRun.ret ⟨trivial, rfl, rfl, (by simp only [reduceIte, Nat.reduceEqDiff, Nat.reduceAdd, Bm, d1, d2, d3] <;> rfl)⟩
  cases d4 : decide (m ≤ 1000)
  · (first | refine WRun.seq (WRun.region ?_) | refine WRun.seq (WRun.seq (WRun.region ?_)) | refine WRun.region ?_ | refine WRun.seq (WRun.seq (WRun.seq (WRun.region ?_)))); ((repeat (first | refine WOps.a rfl (by simp only [reduceIte, Nat.reduceEqDiff, Nat.reduceAdd, Bm, g0, hc, d1, d2, d3, d4] <;> rfl) ?_ | refine WOps.b rfl rfl rfl (by simp only [reduceIte, Nat.reduceEqDiff, Nat.reduceAdd, Bm, g0, hc, d1, d2, d3, d4] <;> rfl) ?_)); refine WOps.nil ?_)
    exact WRun.ret ⟨trivial, rfl, rfl, (by simp only [reduceIte, Nat.reduceEqDiff, Nat.reduceAdd, Bm, d1, d2, d3, d4] <;> rfl)⟩
  (first | refine WRun.seq (WRun.region ?_) | refine WRun.seq (WRun.seq (WRun.region ?_)) | refine WRun.region ?_ | refine WRun.seq (WRun.seq (WRun.seq (WRun.region ?_)))); ((repeat (first | refine WOps.a rfl (by simp only [reduceIte, Nat.reduceEqDiff, Nat.reduceAdd, Bm, g0, hc, d1, d2, d3, d4] <;> rfl) ?_ | refine WOps.b rfl rfl rfl (by simp only [reduceIte, Nat.reduceEqDiff, Nat.reduceAdd, Bm, g0, hc, d1, d2, d3, d4] <;> rfl) ?_)); refine WOps.nil ?_)
  exact WRun.ret ⟨trivial, rfl, rfl, (by simp only [reduceIte, Nat.reduceEqDiff, Nat.reduceAdd, Bm, d1, d2, d3, d4] <;> rfl)⟩
/-- .. by a quandle. -/
theorem Tryz.c14q {S : Summ} (hS : S.get 14 = none) {h : AH} {m : Int} {tv cv : AV} {tl cl : Nat} {qb : Bool}
    (ht : ∀ h' : AH, evLen Tryz.ctx.ty Tryz.y22 tv h' = some (.int .i64 tl)) (hc : ∀ h' : AH, evLen Tryz.ctx.ty Tryz.y25 cv h' = some (.int .i64 cl))
    (hq : ∀ h' : AH, Mine h h' → RunCall Tryz.ctx S 19 [.agg [tv]] h' ⟨.bool qb, h'⟩) (hlow : ∀ b x, h.t.get b = some x → b < h.next) :
    RunCall Tryz.ctx S 14 [.agg [.int .i64 4, .int .i64 m, tv, cv]] h ⟨.bool (decide (m = 0) && decide ((cl : Int) = 0) && qb), h⟩ := by
  refine WRun.calls1 (r := 2) hS Tryz.fn14 rfl rfl rfl rfl ?_
  have g0 : (argsT [.agg [.int .i64 4, .int .i64 m, tv, cv]] 0 .leaf).get 0 = some (.agg [.int .i64 4, .int .i64 m, tv, cv]) := rfl
  generalize argsT [.agg [.int .i64 4, .int .i64 m, tv, cv]] 0 .leaf = T at g0
  (first | refine WRun.seq (WRun.region ?_) | refine WRun.seq (WRun.seq (WRun.region ?_)) | refine WRun.region ?_ | refine WRun.seq (WRun.seq (WRun.seq (WRun.region ?_)))); ((repeat (first | refine WOps.a rfl (by simp only [reduceIte, Nat.reduceEqDiff, Nat.reduceAdd, Bm, g0] <;> rfl) ?_ | refine WOps.b rfl rfl rfl (by simp only [reduceIte, Nat.reduceEqDiff, Nat.reduceAdd, Bm, g0] <;> rfl) ?_)); refine WOps.nil ?_)
  (first | refine WRun.seq (WRun.region ?_) | refine WRun.seq (WRun.seq (WRun.region ?_)) | refine WRun.region ?_ | refine WRun.seq (WRun.seq (WRun.seq (WRun.region ?_)))); ((repeat (first | refine WOps.a rfl (by simp only [reduceIte, Nat.reduceEqDiff, Nat.reduceAdd, Bm, g0, ht] <;> rfl) ?_ | refine WOps.b rfl rfl rfl (by simp only [reduceIte, Nat.reduceEqDiff, Nat.reduceAdd, Bm, g0, ht] <;> rfl) ?_)); refine WOps.nil ?_)
  (first | refine WRun.seq (WRun.region ?_) | refine WRun.seq (WRun.seq (WRun.region ?_)) | refine WRun.region ?_ | refine WRun.seq (WRun.seq (WRun.seq (WRun.region ?_)))); ((repeat (first | refine WOps.a rfl (by simp only [reduceIte, Nat.reduceEqDiff, Nat.reduceAdd, Bm, g0] <;> rfl) ?_ | refine WOps.b rfl rfl rfl (by simp only [reduceIte, Nat.reduceEqDiff, Nat.reduceAdd, Bm, g0] <;> rfl) ?_)); refine WOps.nil ?_)
  refine WRun.block ?_
  (first | refine WRun.seq (WRun.region ?_) | refine WRun.seq (WRun.seq (WRun.region ?_)) | refine WRun.region ?_ | refine WRun.seq (WRun.seq (WRun.seq (WRun.region ?_)))); ((repeat (first | refine WOps.a rfl (by simp only [reduceIte, Nat.reduceEqDiff, Nat.reduceAdd, Bm, g0] <;> rfl) ?_ | refine WOps.b rfl rfl rfl (by simp only [reduceIte, Nat.reduceEqDiff, Nat.reduceAdd, Bm, g0] <;> rfl) ?_)); refine WOps.nil ?_)
  (first | refine WRun.condF (by simp only [reduceIte, Nat.reduceEqDiff, Nat.reduceAdd, Bm, g0] <;> rfl) ?_ | refine WRun.seq (WRun.condF (by simp only [reduceIte, Nat.reduceEqDiff, Nat.reduceAdd, Bm, g0] <;> rfl) ?_))
  (first | refine WRun.seq (WRun.region ?_) | refine WRun.seq (WRun.seq (WRun.region ?_)) | refine WRun.region ?_ | refine WRun.seq (WRun.seq (WRun.seq (WRun.region ?_)))); ((repeat (first | refine WOps.a rfl (by simp only [reduceIte, Nat.reduceEqDiff, Nat.reduceAdd, Bm, g0] <;> rfl) ?_ | refine WOps.b rfl rfl rfl (by simp only [reduceIte, Nat.reduceEqDiff, Nat.reduceAdd, Bm, g0] <;> rfl) ?_)); refine WOps.nil ?_)
  (first | refine WRun.condT (by simp only [reduceIte, Nat.reduceEqDiff, Nat.reduceAdd, Bm, g0] <;> rfl) ?_ | refine WRun.seq (WRun.condT (by simp only [reduceIte, Nat.reduceEqDiff, Nat.reduceAdd, Bm, g0] <;> rfl) ?_))
  cases d1 : decide (m = 0)
  · (first | refine WRun.seq (WRun.region ?_) | refine WRun.seq (WRun.seq (WRun.region ?_)) | refine WRun.region ?_ | refine WRun.seq (WRun.seq (WRun.seq (WRun.region ?_)))); ((repeat (first | refine WOps.a rfl (by simp only [reduceIte, Nat.reduceEqDiff, Nat.reduceAdd, Bm, g0, hc, d1] <;> rfl) ?_ | refine WOps.b rfl rfl rfl (by simp only [reduceIte, Nat.reduceEqDiff, Nat.reduceAdd, Bm, g0, hc, d1] <;> rfl) ?_)); refine WOps.nil ?_)
    exact WRun.ret ⟨trivial, rfl, rfl, (by simp only [reduceIte, Nat.reduceEqDiff, Nat.reduceAdd, Bm, d1] <;> rfl)⟩
  cases d2 : decide ((cl : Int) = 0)
  · (first | refine WRun.seq (WRun.region ?_) | refine WRun.seq (WRun.seq (WRun.region ?_)) | refine WRun.region ?_ | refine WRun.seq (WRun.seq (WRun.seq (WRun.region ?_)))); ((repeat (first | refine WOps.a rfl (by simp only [reduceIte, Nat.reduceEqDiff, Nat.reduceAdd, Bm, g0, hc, d1, d2] <;> rfl) ?_ | refine WOps.b rfl rfl rfl (by simp only [reduceIte, Nat.reduceEqDiff, Nat.reduceAdd, Bm, g0, hc, d1, d2] <;> rfl) ?_)); refine WOps.nil ?_)
    exact WRun.ret ⟨trivial, rfl, rfl, (by simp only [reduceIte, Nat.reduceEqDiff, Nat.reduceAdd, Bm, d1, d2] <;> rfl)⟩
  refine WRun.seq (WRun.region ?_)
  iterate 12 (first | refine WOps.a rfl (by simp only [reduceIte, Nat.reduceEqDiff, Nat.reduceAdd, Bm, g0, hc, d1, d2] <;> rfl) ?_ | refine WOps.vG ((guard_bool rfl rfl (by simp only [reduceIte, Nat.reduceEqDiff, Nat.reduceAdd, Bm, g0, hc, d1, d2] <;> rfl)).trans rfl) (by simp only [reduceIte, Nat.reduceEqDiff, Nat.reduceAdd, Bm, g0, hc, d1, d2] <;> rfl) rfl ?_ | refine WOps.nG (by first | exact (guard_bool rfl rfl (by simp only [reduceIte, Nat.reduceEqDiff, Nat.reduceAdd, Bm, g0, hc, d1, d2] <;> rfl)).trans rfl | exact guard_not rfl rfl (by simp only [reduceIte, Nat.reduceEqDiff, Nat.reduceAdd, Bm, g0, hc, d1, d2] <;> rfl)) rfl ?_)
  refine WOps.cG (by exact (guard_bool rfl rfl (by simp only [reduceIte, Nat.reduceEqDiff, Nat.reduceAdd, Bm, d2] <;> rfl)).trans rfl) (op_call1 (v := .agg [tv]) (by simp only [reduceIte, Nat.reduceEqDiff, Nat.reduceAdd, Bm, g0] <;> rfl) Tryz.fn19 Tryz.ex19) (hq _ ((Mine.start hlow).add _)) rfl ?_
  ((repeat (first | refine WOps.a rfl (by simp only [reduceIte, Nat.reduceEqDiff, Nat.reduceAdd, Bm, g0, hc, d1, d2] <;> rfl) ?_ | refine WOps.b rfl rfl rfl (by simp only [reduceIte, Nat.reduceEqDiff, Nat.reduceAdd, Bm, g0, hc, d1, d2] <;> rfl) ?_)); refine WOps.nil ?_)
  exact WRun.ret ⟨trivial, rfl, rfl, (by simp only [reduceIte, Nat.reduceEqDiff, Nat.reduceAdd, Bm, d1, d2] <;> rfl)⟩
/-- .. by homomorphisms. -/
theorem Tryz.c14h {S : Summ} (hS : S.get 14 = none) (hS38 : S.get 38 = none) {h : AH} {m : Int} (m0 : -9223372036854775808 ≤ m) (m1 : m ≤ 9223372036854775807) {tv cv : AV} {tl : Nat} {l : List Int}
    (ht : ∀ h' : AH, evLen Tryz.ctx.ty Tryz.y22 tv h' = some (.int .i64 tl)) (hr : RowT h cv l) (hl : l.length ≤ 9223372036854775806) (hlow : ∀ b x, h.t.get b = some x → b < h.next) :
    RunCall Tryz.ctx S 14 [.agg [.int .i64 5, .int .i64 m, tv, cv]] h ⟨.bool (decide ((tl : Int) = 0) && decide (1 ≤ m) && decide (m ≤ 5) && isTypeB m m l), h⟩ := by
  refine WRun.calls1 (r := 2) hS Tryz.fn14 rfl rfl rfl rfl ?_
  have g0 : (argsT [.agg [.int .i64 5, .int .i64 m, tv, cv]] 0 .leaf).get 0 = some (.agg [.int .i64 5, .int .i64 m, tv, cv]) := rfl
  generalize argsT [.agg [.int .i64 5, .int .i64 m, tv, cv]] 0 .leaf = T at g0
  (first | refine WRun.seq (WRun.region ?_) | refine WRun.seq (WRun.seq (WRun.region ?_)) | refine WRun.region ?_ | refine WRun.seq (WRun.seq (WRun.seq (WRun.region ?_)))); ((repeat (first | refine WOps.a rfl (by simp only [reduceIte, Nat.reduceEqDiff, Nat.reduceAdd, Bm, g0] <;> rfl) ?_ | refine WOps.b rfl rfl rfl (by simp only [reduceIte, Nat.reduceEqDiff, Nat.reduceAdd, Bm, g0] <;> rfl) ?_)); refine WOps.nil ?_)
  (first | refine WRun.seq (WRun.region ?_) | refine WRun.seq (WRun.seq (WRun.region ?_)) | refine WRun.region ?_ | refine WRun.seq (WRun.seq (WRun.seq (WRun.region ?_)))); ((repeat (first | refine WOps.a rfl (by simp only [reduceIte, Nat.reduceEqDiff, Nat.reduceAdd, Bm, g0, ht] <;> rfl) ?_ | refine WOps.b rfl rfl rfl (by simp only [reduceIte, Nat.reduceEqDiff, Nat.reduceAdd, Bm, g0, ht] <;> rfl) ?_)); refine WOps.nil ?_)
  (first | refine WRun.seq (WRun.region ?_) | refine WRun.seq (WRun.seq (WRun.region ?_)) | refine WRun.region ?_ | refine WRun.seq (WRun.seq (WRun.seq (WRun.region ?_)))); ((repeat (first | refine WOps.a rfl (by simp only [reduceIte, Nat.reduceEqDiff, Nat.reduceAdd, Bm, g0] <;> rfl) ?_ | refine WOps.b rfl rfl rfl (by simp only [reduceIte, Nat.reduceEqDiff, Nat.reduceAdd, Bm, g0] <;> rfl) ?_)); refine WOps.nil ?_)
  refine WRun.block ?_
  (first | refine WRun.seq (WRun.region ?_) | refine WRun.seq (WRun.seq (WRun.region ?_)) | refine WRun.region ?_ | refine WRun.seq (WRun.seq (WRun.seq (WRun.region ?_)))); ((repeat (first | refine WOps.a rfl (by simp only [reduceIte, Nat.reduceEqDiff, Nat.reduceAdd, Bm, g0] <;> rfl) ?_ | refine WOps.b rfl rfl rfl (by simp only [reduceIte, Nat.reduceEqDiff, Nat.reduceAdd, Bm, g0] <;> rfl) ?_)); refine WOps.nil ?_)
  (first | refine WRun.condF (by simp only [reduceIte, Nat.reduceEqDiff, Nat.reduceAdd, Bm, g0] <;> rfl) ?_ | refine WRun.seq (WRun.condF (by simp only [reduceIte, Nat.reduceEqDiff, Nat.reduceAdd, Bm, g0] <;> rfl) ?_))
  (first | refine WRun.seq (WRun.region ?_) | refine WRun.seq (WRun.seq (WRun.region ?_)) | refine WRun.region ?_ | refine WRun.seq (WRun.seq (WRun.seq (WRun.region ?_)))); ((repeat (first | refine WOps.a rfl (by simp only [reduceIte, Nat.reduceEqDiff, Nat.reduceAdd, Bm, g0] <;> rfl) ?_ | refine WOps.b rfl rfl rfl (by simp only [reduceIte, Nat.reduceEqDiff, Nat.reduceAdd, Bm, g0] <;> rfl) ?_)); refine WOps.nil ?_)
  (first | refine WRun.condF (by simp only [reduceIte, Nat.reduceEqDiff, Nat.reduceAdd, Bm, g0] <;> rfl) ?_ | refine WRun.seq (WRun.condF (by simp only [reduceIte, Nat.reduceEqDiff, Nat.reduceAdd, Bm, g0] <;> rfl) ?_))
  (first | refine WRun.seq (WRun.region ?_) | refine WRun.seq (WRun.seq (WRun.region ?_)) | refine WRun.region ?_ | refine WRun.seq (WRun.seq (WRun.seq (WRun.region ?_)))); ((repeat (first | refine WOps.a rfl (by simp only [reduceIte, Nat.reduceEqDiff, Nat.reduceAdd, Bm, g0] <;> rfl) ?_ | refine WOps.b rfl rfl rfl (by simp only [reduceIte, Nat.reduceEqDiff, Nat.reduceAdd, Bm, g0] <;> rfl) ?_)); refine WOps.nil ?_)
  (first | refine WRun.condT (by simp only [reduceIte, Nat.reduceEqDiff, Nat.reduceAdd, Bm, g0] <;> rfl) ?_ | refine WRun.seq (WRun.condT (by simp only [reduceIte, Nat.reduceEqDiff, Nat.reduceAdd, Bm, g0] <;> rfl) ?_))
  cases d1 : decide ((tl : Int) = 0)
  · (first | refine WRun.seq (WRun.region ?_) | refine WRun.seq (WRun.seq (WRun.region ?_)) | refine WRun.region ?_ | refine WRun.seq (WRun.seq (WRun.seq (WRun.region ?_)))); ((repeat (first | refine WOps.a rfl (by simp only [reduceIte, Nat.reduceEqDiff, Nat.reduceAdd, Bm, g0, d1] <;> rfl) ?_ | refine WOps.b rfl rfl rfl (by simp only [reduceIte, Nat.reduceEqDiff, Nat.reduceAdd, Bm, g0, d1] <;> rfl) ?_)); refine WOps.nil ?_)
    exact WRun.ret ⟨trivial, rfl, rfl, (by simp only [reduceIte, Nat.reduceEqDiff, Nat.reduceAdd, Bm, d1] <;> rfl)⟩
  cases d2 : decide (1 ≤ m)
  · (first | refine WRun.seq (WRun.region ?_) | refine WRun.seq (WRun.seq (WRun.region ?_)) | refine WRun.region ?_ | refine WRun.seq (WRun.seq (WRun.seq (WRun.region ?_)))); ((repeat (first | refine WOps.a rfl (by simp only [reduceIte, Nat.reduceEqDiff, Nat.reduceAdd, Bm, g0, d1, d2] <;> rfl) ?_ | refine WOps.b rfl rfl rfl (by simp only [reduceIte, Nat.reduceEqDiff, Nat.reduceAdd, Bm, g0, d1, d2] <;> rfl) ?_)); refine WOps.nil ?_)
    exact WRun.ret ⟨trivial, rfl, rfl, (by simp only [reduceIte, Nat.reduceEqDiff, Nat.reduceAdd, Bm, d1, d2] <;> rfl)⟩
  cases d3 : decide (m ≤ 5)
  · (first | refine WRun.seq (WRun.region ?_) | refine WRun.seq (WRun.seq (WRun.region ?_)) | refine WRun.region ?_ | refine WRun.seq (WRun.seq (WRun.seq (WRun.region ?_)))); ((repeat (first | refine WOps.a rfl (by simp only [reduceIte, Nat.reduceEqDiff, Nat.reduceAdd, Bm, g0, d1, d2, d3] <;> rfl) ?_ | refine WOps.b rfl rfl rfl (by simp only [reduceIte, Nat.reduceEqDiff, Nat.reduceAdd, Bm, g0, d1, d2, d3] <;> rfl) ?_)); refine WOps.nil ?_)
    exact WRun.ret ⟨trivial, rfl, rfl, (by simp only [reduceIte, Nat.reduceEqDiff, Nat.reduceAdd, Bm, d1, d2, d3] <;> rfl)⟩
  refine WRun.seq (WRun.region ?_)
  iterate 16 (first | refine WOps.a rfl (by simp only [reduceIte, Nat.reduceEqDiff, Nat.reduceAdd, Bm, g0, d1, d2, d3] <;> rfl) ?_ | refine WOps.vG ((guard_bool rfl rfl (by simp only [reduceIte, Nat.reduceEqDiff, Nat.reduceAdd, Bm, g0, d1, d2, d3] <;> rfl)).trans rfl) (by simp only [reduceIte, Nat.reduceEqDiff, Nat.reduceAdd, Bm, g0, d1, d2, d3] <;> rfl) rfl ?_ | refine WOps.nG (by first | exact (guard_bool rfl rfl (by simp only [reduceIte, Nat.reduceEqDiff, Nat.reduceAdd, Bm, g0, d1, d2, d3] <;> rfl)).trans rfl | exact guard_not rfl rfl (by simp only [reduceIte, Nat.reduceEqDiff, Nat.reduceAdd, Bm, g0, d1, d2, d3] <;> rfl)) rfl ?_)
  refine WOps.cG (by exact (guard_bool rfl rfl (by simp only [reduceIte, Nat.reduceEqDiff, Nat.reduceAdd, Bm, d3] <;> rfl)).trans rfl) (op_call2 (v := .int .i64 m) (u := cv) (by simp only [reduceIte, Nat.reduceEqDiff, Nat.reduceAdd, Bm, g0] <;> rfl) (by simp only [reduceIte, Nat.reduceEqDiff, Nat.reduceAdd, Bm, g0] <;> rfl) Tryz.fn38 Tryz.ex38) (Tryz.c38 hS38 m0 m1 (hr.mono fun b x hb => by
    rw [get_add, if_neg (by have := hlow b x hb; exact fun e => by have e : b = h.next := e; omega)]; exact hb) hl) rfl ?_
  ((repeat (first | refine WOps.a rfl (by simp only [reduceIte, Nat.reduceEqDiff, Nat.reduceAdd, Bm, g0, d1, d2, d3] <;> rfl) ?_ | refine WOps.b rfl rfl rfl (by simp only [reduceIte, Nat.reduceEqDiff, Nat.reduceAdd, Bm, g0, d1, d2, d3] <;> rfl) ?_)); refine WOps.nil ?_)
  exact WRun.ret ⟨trivial, rfl, rfl, (by simp only [reduceIte, Nat.reduceEqDiff, Nat.reduceAdd, Bm, d1, d2, d3] <;> rfl)⟩
end Go.Proofs
