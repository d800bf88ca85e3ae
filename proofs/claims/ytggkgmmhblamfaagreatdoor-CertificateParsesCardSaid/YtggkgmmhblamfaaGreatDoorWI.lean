/- Part of the proof. -/
import Derived.Test.YtggkgmmhblamfaaGreatDoorWH
import Derived.Test.YtggkgmmhblamfaaGreatDoorWD
set_option linter.all false
namespace Go.Proofs
open Go.Ev
set_option maxRecDepth 100000
theorem Tryz.word52 : Word Tryz.y52 Tryz.y9 Tryz.ctx.ty 9 := ⟨rfl, Tryz.ty9, rfl, by decide +kernel, by decide +kernel, rfl⟩
theorem fz10 : fzNew 9 = 10 := by decide +kernel
end Go.Proofs
namespace Go.Ev
theorem append_slice1 {ty : PT ATy} {a ae : ATy} {e b fz : Nat} {h : AH} {v x y : AV} (W : Word a ae ty e) (hk : lenOf x = some 1) (hx : elems h 1 1 x = some [y]) (hb : h.t.get b = some (.cells [v] fz)) :
    evAppend ty a (.slice b 0 1 1) x h = .val (.sliceU h.next 0 2 1) (h.add (.cells [v, y] (fzNew e))) := by
  rw [append_pre W hk hx rfl]
  show forceN (1 + 1) (fun need => cnd (Nat.ble need 1) (appendHere (.slice b 0 need 1) b (Nat.add 0 (Nat.mul 1 ae.size)) [y] h)
              (cnd (Nat.ble need limit && Nat.ble 1 limit) (appendNew e ae (.slice b 0 1 1) 1 need [y] h) .fail)) = _
  rw [forceN_eq]
  show appendNew e ae (.slice b 0 1 1) 1 2 [y] h = _
  unfold appendNew
  have he : elems h ae.size 1 (.slice b 0 1 1) = some [v] := by
    rw [W.size]
    show (match known h b with | some (c, _) => sub c 0 (Nat.mul 1 1) | none => none) = _
    have : known h b = some ([v], fz) := by unfold known; rw [hb]
    rw [this]
    rfl
  rw [he]
  show forceL ([v] ++ [y]) (fun l => forceN h.next fun b => forceN (fzNew e) fun fz => R.val (.sliceU b 0 2 ae.size) (h.add (.cells l fz))) = _
  rw [forceL_eq, forceN_eq, forceN_eq, W.size]
  rfl
end Go.Ev
namespace Go.Proofs
open Go.Ev
def strsAV (l : List (List UInt8)) : List AV := l.map AV.str
/-- The words so far. -/
def WVec (lo : Nat) (H : AH) (v : AV) (xs : List (List UInt8)) : Prop :=
  (∃ b x, v = .slice b 0 1 1 ∧ lo ≤ b ∧ H.t.get b = some (.cells [.str x] 0) ∧ xs = [x]) ∨ VecI lo H v (strsAV xs)
theorem WVec.rowS {lo : Nat} {H : AH} {v : AV} {xs : List (List UInt8)} (r : WVec lo H v xs) : RowS H v xs := by
  rcases r with ⟨b, x, rfl, _, hb, rfl⟩ | r
  · refine .inr ⟨b, 0, 1, _, 0, .inl ⟨rfl, Nat.le_refl _⟩, hb, fun i y hy => ?_⟩
    cases i with
    | zero => have hy : x = y := by simpa using hy
              subst hy; rfl
    | succ i => simp at hy
  · rcases r with ⟨rfl, e⟩ | ⟨b, fz, rfl, _, hb, _⟩
    · exact .inl ⟨rfl, List.map_eq_nil_iff.1 e⟩
    · refine .inr ⟨b, 0, 0, _, fz, .inr (by unfold strsAV; rw [List.length_map]), hb, fun i y hy => ?_⟩
      unfold strsAV
      rw [Nat.zero_add, List.getElem?_map, hy]
      rfl
theorem Own.mine {h h' : AH} (o : Own h h') (hm : h'.mark = h.next) (hl : h'.log = []) : Mine h h' := ⟨o.ext, o.low, o.lowN, o.next, hm, hl⟩
theorem WVec.app {lo : Nat} {h H : AH} {v : AV} {xs : List (List UInt8)} (r : WVec lo H v xs) (M : Mine h H) (hlo : h.next ≤ lo) (hn : lo ≤ H.next) (x : List UInt8) (hbig : xs.length + 1 ≤ 16777216) :
    ∃ v' H', evAppend Tryz.ctx.ty Tryz.y52 v (.slice H.next 0 1 1) (H.add (.cells [.str x] 0)) = .val v' H' ∧ WVec lo H' v' (xs ++ [x]) ∧ Mine h H' ∧ H.next ≤ H'.next ∧ ∀ c, c < lo → H'.t.get c = H.t.get c := by
  have hlit : (H.add (.cells [.str x] 0)).t.get H.next = some (.cells [.str x] 0) := get_add_self
  rcases r with ⟨b, y, rfl, hb, hbb, rfl⟩ | r
  · have hbl := M.lowN _ _ hbb
    have hb' : (H.add (.cells [.str x] 0)).t.get b = some (.cells [.str y] 0) := by rw [get_add, if_neg (by omega)]; exact hbb
    refine ⟨_, _, append_slice1 Tryz.word52 (y := .str x) rfl (elems_lit hlit) hb', .inr (.inr ⟨_, fzNew 9, rfl, by rw [next_add]; omega, get_add_self, by rw [fz10]; exact Nat.zero_le _, by simp [strsAV]⟩), (M.add _).add _, by rw [next_add, next_add]; omega, fun c hc => ?_⟩
    rw [get_add, if_neg (by rw [next_add]; omega), get_add, if_neg (by omega)]
  · obtain ⟨b', H', ap, V', O', m', l', _, hb2, k'⟩ := r.app Tryz.word52 (Own.ofMine M) hlo hn (x := .str x) rfl (by unfold strsAV; rw [List.length_map]; exact hbig) (by rw [fz10])
    refine ⟨_, H', ap, .inr ?_, O'.mine (by rw [m', M.mark]) (by rw [l' M.mark, M.log]), by omega, fun c hc => k' c (by omega) fun n => r.ne hc n⟩
    have : strsAV (xs ++ [x]) = strsAV xs ++ [.str x] := by unfold strsAV; rw [List.map_append]; rfl
    rw [this]
    exact V'
theorem join_fmt3 (w a : List UInt8) : joinT [32] [w, a] = w ++ ([32] ++ a) := by simp [joinT]
theorem join_fmt5 (w a : List UInt8) {l : List Int} (h : l ≠ []) : joinT [32] (w :: a :: l.map itoaK) = w ++ ((([32] ++ a) ++ [32]) ++ rowT l) := by
  cases l with
  | nil => exact absurd rfl h
  | cons x l => simp [joinT, rowT]
noncomputable def ps10 : List (Nat × AV) := [(0, .str []), (1, .str [99,111,109,112,111,110,101,110,116,115]), (2, .str [108,105,110,107,105,110,103]), (3, .str [99,111,108,111,114,115]), (4, .str [113,117,97,110,100,108,101]), (5, .str [104,111,109,115]), (6, .str [106,111,110,101,115]), (7, .str [99,111,110,119,97,121]), (8, .str [104,111,109,102,108,121]), (9, .str [107,104,111,118,97,110,111,118])]
theorem Tryz.bs10 {T : PT AV} {h : AH} {ps : Array (Nat × Operand)} (hp : evParts Tryz.ctx.G T ps.toList = some ps10) :
    evOp (.buildSlice 52 10 ps) Tryz.ctx T h = .val (.slice h.next 0 10 10) (h.add (.cells (.str [] :: wordsL.map .str) 0)) := by
  show withT Tryz.ctx.ty 52 (fun a => withL (evParts Tryz.ctx.G T ps.toList) fun ps => evBuildSlice Tryz.ctx.ty a 10 ps h) = _
  rw [Tryz.wt52, hp]
  show evBuildSlice Tryz.ctx.ty Tryz.y52 10 ps10 h = _
  have e : fillRow Tryz.y9.size ps10 (times Tryz.y9.zero 10) = some (.str [] :: wordsL.map .str) := by rfl
  show (match Tryz.ctx.ty.get 9 with
    | some ae => cnd (Nat.ble 10 65536 && Nat.ble ae.size 256 && Nat.beq (len ae.zero) ae.size && Nat.blt 0 ae.size) (match fillRow ae.size ps10 (times ae.zero 10) with
      | some l => forceN h.next fun b => R.val (.slice b 0 10 10) (h.add (.cells l 0))
      | none => .fail) .fail
    | none => .fail) = _
  rw [Tryz.ty9]
  show (match fillRow Tryz.y9.size ps10 (times Tryz.y9.zero 10) with
      | some l => forceN h.next fun b => R.val (.slice b 0 10 10) (h.add (.cells l 0))
      | none => .fail) = _
  rw [e]
  show forceN h.next (fun b => R.val (.slice b 0 10 10) (h.add (.cells (.str [] :: wordsL.map .str) 0))) = _
  rw [forceN_eq]
theorem Tryz.c10 {S : Summ} (hS10 : S.get 10 = none) (G : Gets S) {h : AH} (low : ∀ b x, h.t.get b = some x → b < h.next) {k m : Int} {tv cv : AV} {t : List (List Int)} {R : Nat → AV} {l : List Int} (q : PrV h m tv cv t R l) (v : VP k m t l) :
    RunCall Tryz.ctx S 10 [.agg [.int .i64 k, .int .i64 m, tv, cv]] h ⟨.str (fmtT k m t l), h⟩ := by
  obtain ⟨k1, k9⟩ := v.range
  refine WRun.calls1 (r := 2) hS10 Tryz.fn10 rfl rfl rfl rfl ?_
  have hO := (Mine.start low).add (.cells [.int .i64 k, .int .i64 m, tv, cv] 0)
  have hb : ((⟨h.t, h.next, h.next, []⟩ : AH).add (.cells [.int .i64 k, .int .i64 m, tv, cv] 0)).t.get h.next = some (.cells [.int .i64 k, .int .i64 m, tv, cv] 0) := get_add_self
  have hn : ((⟨h.t, h.next, h.next, []⟩ : AH).add (.cells [.int .i64 k, .int .i64 m, tv, cv] 0)).next = h.next + 1 := rfl
  have g0 : (argsT [.agg [.int .i64 k, .int .i64 m, tv, cv]] 0 .leaf).get 0 = some (.agg [.int .i64 k, .int .i64 m, tv, cv]) := rfl
  generalize argsT [.agg [.int .i64 k, .int .i64 m, tv, cv]] 0 .leaf = T at g0
  (first | refine WRun.seq (WRun.region ?_) | refine WRun.seq (WRun.seq (WRun.region ?_)) | refine WRun.region ?_ | refine WRun.seq (WRun.seq (WRun.seq (WRun.region ?_)))); ((repeat (first | refine WOps.a rfl (by simp only [reduceIte, Nat.reduceEqDiff, Nat.reduceAdd, B3, g0] <;> rfl) ?_ | refine WOps.b rfl rfl rfl (by simp only [reduceIte, Nat.reduceEqDiff, Nat.reduceAdd, B3, g0] <;> rfl) ?_)); refine WOps.nil ?_)
  generalize ((⟨h.t, h.next, h.next, []⟩ : AH).add (.cells [.int .i64 k, .int .i64 m, tv, cv] 0)) = H at hO hb hn
  obtain ⟨i, hi⟩ : ∃ i : Nat, k = i + 1 := ⟨(k - 1).toNat, by omega⟩
  have hi9 : i < 9 := by omega
  have kk : ((i + 1 : Nat) : Int) = k := by omega
  have hw : wordT k = (wordsL[i]?).getD [] := by unfold wordT; rw [show (k - 1).toNat = i by omega]
  have hci : (AV.str [] :: wordsL.map AV.str)[i + 1]? = some (.str (wordT k)) := by
    rw [List.getElem?_cons_succ, List.getElem?_map, hw, List.getElem?_eq_getElem (show i < wordsL.length from hi9)]
    rfl
  -- the first word
  have hO1 := hO.add (.cells (.str [] :: wordsL.map .str) 0)
  have n1 : (H.add (.cells (.str [] :: wordsL.map .str) 0)).next = h.next + 2 := by rw [next_add, hn]
  have w1 : (H.add (.cells (.str [] :: wordsL.map .str) 0)).t.get (h.next + 1) = some (.cells (.str [] :: wordsL.map .str) 0) := by rw [get_add, if_pos hn.symm]
  have hb1 : (H.add (.cells (.str [] :: wordsL.map .str) 0)).t.get h.next = some (.cells [.int .i64 k, .int .i64 m, tv, cv] 0) := by rw [get_add, if_neg (by omega)]; exact hb
  refine WRun.seq (WRun.region ?_)
  refine WOps.vN (Tryz.bs10 (by rfl)) rfl ?_
  rw [hn]
  generalize (H.add (.cells (.str [] :: wordsL.map .str) 0)) = H1 at hO1 n1 w1 hb1 ⊢
  have l0 : evLoad Tryz.y3 (.ptr h.next 0) H1 = .val (.int .i64 k) H1 := load_word rfl hb1 rfl
  have ia : evIndexAddr Tryz.ctx.ty Tryz.y52 (.slice (h.next + 1) 0 10 10) (.int .i64 k) H1 = .val (.ptr (h.next + 1) (i + 1)) H1 := by
    rw [← kk]; exact indexSl rfl Tryz.ty9 rfl (by omega)
  have lw : evLoad Tryz.y9 (.ptr (h.next + 1) (i + 1)) H1 = .val (.str (wordT k)) H1 := load_word rfl w1 hci
  iterate 4 (first | refine WOps.a rfl (by simp only [reduceIte, Nat.reduceEqDiff, Nat.reduceAdd, B2, g0, l0, ia, lw] <;> rfl) ?_ | refine WOps.vG ((guard_bool rfl rfl (by simp only [reduceIte, Nat.reduceEqDiff, Nat.reduceAdd, B2, g0, l0, ia, lw] <;> rfl)).trans rfl) (by simp only [reduceIte, Nat.reduceEqDiff, Nat.reduceAdd, B2, g0, l0, ia, lw] <;> rfl) rfl ?_ | refine WOps.nG (by first | exact (guard_bool rfl rfl (by simp only [reduceIte, Nat.reduceEqDiff, Nat.reduceAdd, B2, g0, l0, ia, lw] <;> rfl)).trans rfl | exact guard_not rfl rfl (by simp only [reduceIte, Nat.reduceEqDiff, Nat.reduceAdd, B2, g0, l0, ia, lw] <;> rfl)) rfl ?_)
  refine WOps.vN (op_buildSlice1 (v := .str (wordT k)) rfl (by simp only [reduceIte, Nat.reduceEqDiff, Nat.reduceAdd, B3, g0] <;> rfl) Tryz.ty52 Tryz.word52 rfl rfl) rfl ?_
  ((repeat (first | refine WOps.a rfl (by simp only [reduceIte, Nat.reduceEqDiff, Nat.reduceAdd, B3, g0] <;> rfl) ?_ | refine WOps.b rfl rfl rfl (by simp only [reduceIte, Nat.reduceEqDiff, Nat.reduceAdd, B3, g0] <;> rfl) ?_)); refine WOps.nil ?_)
  have hO2 := hO1.add (.cells [.str (wordT k)] 0)
  have n2 : (H1.add (.cells [.str (wordT k)] 0)).next = h.next + 3 := by rw [next_add, n1]
  have wv : WVec (h.next + 1) (H1.add (.cells [.str (wordT k)] 0)) (.slice H1.next 0 1 1) [wordT k] := .inl ⟨_, _, rfl, by omega, get_add_self, rfl⟩
  have hb2 : (H1.add (.cells [.str (wordT k)] 0)).t.get h.next = some (.cells [.int .i64 k, .int .i64 m, tv, cv] 0) := by rw [get_add, if_neg (by omega)]; exact hb1
  refine WRun.withT (P := fun T => T.get 1 = some (.ptr h.next 0) ∧ T.get 3 = some (.slice H1.next 0 1 1)) ⟨(by simp only [reduceIte, Nat.reduceEqDiff, Nat.reduceAdd, B3, g0] <;> rfl), (by simp only [reduceIte, Nat.reduceEqDiff, Nat.reduceAdd, B3, g0] <;> rfl)⟩ ?_
  generalize (H1.add (.cells [.str (wordT k)] 0)) = H2 at hO2 n2 wv hb2
  clear g0 T
  rintro T ⟨t1, t3⟩
  generalize AV.slice H1.next 0 1 1 = wv1 at wv t3
  have L0 : ∀ {H : AH}, H.t.get h.next = some (.cells [.int .i64 k, .int .i64 m, tv, cv] 0) → evLoad Tryz.y3 (.ptr h.next 0) H = .val (.int .i64 k) H := fun hb => load_word rfl hb rfl
  have L1 : ∀ {H : AH}, H.t.get h.next = some (.cells [.int .i64 k, .int .i64 m, tv, cv] 0) → evLoad Tryz.y3 (.ptr h.next 1) H = .val (.int .i64 m) H := fun hb => load_word rfl hb rfl
  have L2 : ∀ {H : AH}, H.t.get h.next = some (.cells [.int .i64 k, .int .i64 m, tv, cv] 0) → evLoad Tryz.y24 (.ptr h.next 2) H = .val (.agg [tv]) H := fun hb => by rw [load_ptr, hb]; rfl
  have L3 : ∀ {H : AH}, H.t.get h.next = some (.cells [.int .i64 k, .int .i64 m, tv, cv] 0) → evLoad Tryz.y25 (.ptr h.next 3) H = .val cv H := fun hb => load_word rfl hb rfl
  -- the number
  have l1 := L1 hb2
  (first | refine WRun.seq (WRun.region ?_) | refine WRun.seq (WRun.seq (WRun.region ?_)) | refine WRun.region ?_ | refine WRun.seq (WRun.seq (WRun.seq (WRun.region ?_)))); ((repeat (first | refine WOps.a rfl (by simp only [reduceIte, Nat.reduceEqDiff, Nat.reduceAdd, B2, t1, l1] <;> rfl) ?_ | refine WOps.b rfl rfl rfl (by simp only [reduceIte, Nat.reduceEqDiff, Nat.reduceAdd, B2, t1, l1] <;> rfl) ?_)); refine WOps.nil ?_)
  refine (show WRun Tryz.ctx S 10 Tryz.f10.ntmps none _ _ _ _ _ from ?_)
  have hm : 0 < m ∨ m = 0 := by
    unfold VP at v
    by_cases h3 : k = 3
    · rw [if_pos h3] at v; omega
    rw [if_neg h3] at v
    by_cases h4 : k = 4
    · rw [if_pos h4] at v; exact .inr v.1
    rw [if_neg h4] at v
    by_cases h5 : k = 5
    · rw [if_pos h5] at v; omega
    rw [if_neg h5] at v
    exact .inr v.2.1
  refine WRun.cut (M := fun T H' => Mine h H' ∧ h.next + 1 ≤ H'.next ∧ H'.t.get h.next = some (.cells [.int .i64 k, .int .i64 m, tv, cv] 0) ∧ T.get 1 = some (.ptr h.next 0) ∧ ∃ w, T.get 3 = some w ∧ WVec (h.next + 1) H' w (wordT k :: if 0 < m then [itoaK m] else [])) ?_ ?_
  · by_cases hm0 : 0 < m
    · have e : decide ((0 : Int) < m) = true := by simpa using hm0
      obtain ⟨v', H', ap, wv', M', nx', k'⟩ := wv.app hO2 (by omega) (by omega) (itoaK m) (by simp)
      (first | refine WRun.condT (by simp only [reduceIte, Nat.reduceEqDiff, Nat.reduceAdd, B3, e] <;> rfl) ?_ | refine WRun.seq (WRun.condT (by simp only [reduceIte, Nat.reduceEqDiff, Nat.reduceAdd, B3, e] <;> rfl) ?_))
      refine WRun.region ?_
      iterate 3 (first | refine WOps.a rfl (by simp only [reduceIte, Nat.reduceEqDiff, Nat.reduceAdd, B2, t1, t3, l1] <;> rfl) ?_ | refine WOps.vG ((guard_bool rfl rfl (by simp only [reduceIte, Nat.reduceEqDiff, Nat.reduceAdd, B2, t1, t3, l1] <;> rfl)).trans rfl) (by simp only [reduceIte, Nat.reduceEqDiff, Nat.reduceAdd, B2, t1, t3, l1] <;> rfl) rfl ?_ | refine WOps.nG (by first | exact (guard_bool rfl rfl (by simp only [reduceIte, Nat.reduceEqDiff, Nat.reduceAdd, B2, t1, t3, l1] <;> rfl)).trans rfl | exact guard_not rfl rfl (by simp only [reduceIte, Nat.reduceEqDiff, Nat.reduceAdd, B2, t1, t3, l1] <;> rfl)) rfl ?_)
      refine WOps.cN (op_call1 (v := .int .i64 m) (by simp only [reduceIte, Nat.reduceEqDiff, Nat.reduceAdd, B3, t1] <;> rfl) Tryz.fn16 Tryz.ex16) (Tryz.cItoa G.s16 q.m0 q.m1 _) rfl ?_
      refine WOps.vN (op_buildSlice1 (v := .str (itoaK m)) rfl (by simp only [reduceIte, Nat.reduceEqDiff, Nat.reduceAdd, B3, t1] <;> rfl) Tryz.ty52 Tryz.word52 rfl rfl) rfl ?_
      refine WOps.vN ((op_append (u := wv1) (v := .slice H2.next 0 1 1) (a := Tryz.y52) (a2 := Tryz.y52) (by simp only [reduceIte, Nat.reduceEqDiff, Nat.reduceAdd, B3, t3] <;> rfl) (by simp only [reduceIte, Nat.reduceEqDiff, Nat.reduceAdd, B3, t3] <;> rfl) Tryz.ty52 Tryz.ty52 rfl).trans ap) rfl ?_
      ((repeat (first | refine WOps.a rfl (by simp only [reduceIte, Nat.reduceEqDiff, Nat.reduceAdd, B3, t1] <;> rfl) ?_ | refine WOps.b rfl rfl rfl (by simp only [reduceIte, Nat.reduceEqDiff, Nat.reduceAdd, B3, t1] <;> rfl) ?_)); refine WOps.nil ?_)
      exact ⟨rfl, rfl, M', by omega, by rw [k' _ (by omega)]; exact hb2, (by simp only [reduceIte, Nat.reduceEqDiff, Nat.reduceAdd, B3, t1] <;> rfl), v', (by simp only [reduceIte, Nat.reduceEqDiff, Nat.reduceAdd, B3, t1] <;> rfl), by rw [if_pos hm0]; exact wv'⟩
    · have e : decide ((0 : Int) < m) = false := by simpa using hm0
      (first | refine WRun.condF (by simp only [reduceIte, Nat.reduceEqDiff, Nat.reduceAdd, B3, e] <;> rfl) ?_ | refine WRun.seq (WRun.condF (by simp only [reduceIte, Nat.reduceEqDiff, Nat.reduceAdd, B3, e] <;> rfl) ?_))
      exact WRun.skip ⟨rfl, rfl, hO2, by omega, hb2, (by simp only [reduceIte, Nat.reduceEqDiff, Nat.reduceAdd, B3, t1] <;> rfl), wv1, (by simp only [reduceIte, Nat.reduceEqDiff, Nat.reduceAdd, B3, t3] <;> rfl), by rw [if_neg hm0]; exact wv⟩
  clear t1 t3 wv hO2 hb2 n2 l1 hO1 w1 hb1 l0 ia lw n1 T
  rintro T H3 ⟨M3, n3, hb3, t1, wv3, t3, wv⟩
  refine (show WRun Tryz.ctx S 10 Tryz.f10.ntmps none _ _ _ _ _ from ?_)
  have l0 := L0 hb3
  have l2 := L2 hb3
  (first | refine WRun.seq (WRun.region ?_) | refine WRun.seq (WRun.seq (WRun.region ?_)) | refine WRun.region ?_ | refine WRun.seq (WRun.seq (WRun.seq (WRun.region ?_)))); ((repeat (first | refine WOps.a rfl (by simp only [reduceIte, Nat.reduceEqDiff, Nat.reduceAdd, B2, t1, l0] <;> rfl) ?_ | refine WOps.b rfl rfl rfl (by simp only [reduceIte, Nat.reduceEqDiff, Nat.reduceAdd, B2, t1, l0] <;> rfl) ?_)); refine WOps.nil ?_)
  refine (show WRun Tryz.ctx S 10 Tryz.f10.ntmps none _ _ _ _ _ from ?_)
  refine WRun.cut (M := fun T H' => Mine h H' ∧ h.next + 1 ≤ H'.next ∧ H'.t.get h.next = some (.cells [.int .i64 k, .int .i64 m, tv, cv] 0) ∧ T.get 1 = some (.ptr h.next 0) ∧ ∃ w, T.get 3 = some w ∧ WVec (h.next + 1) H' w ((wordT k :: if 0 < m then [itoaK m] else []) ++ if k = 4 then [tabT t] else [])) ?_ ?_
  · by_cases h4 : k = 4
    · subst h4
      obtain ⟨v', H', ap, wv', M', nx', k'⟩ := wv.app M3 (by omega) (by omega) (tabT t) (by split <;> simp)
      (first | refine WRun.condT (by simp only [reduceIte, Nat.reduceEqDiff, Nat.reduceAdd, B3, t1] <;> rfl) ?_ | refine WRun.seq (WRun.condT (by simp only [reduceIte, Nat.reduceEqDiff, Nat.reduceAdd, B3, t1] <;> rfl) ?_))
      refine WRun.seq (WRun.region ?_)
      iterate 2 (first | refine WOps.a rfl (by simp only [reduceIte, Nat.reduceEqDiff, Nat.reduceAdd, B2, t1, l2] <;> rfl) ?_ | refine WOps.vG ((guard_bool rfl rfl (by simp only [reduceIte, Nat.reduceEqDiff, Nat.reduceAdd, B2, t1, l2] <;> rfl)).trans rfl) (by simp only [reduceIte, Nat.reduceEqDiff, Nat.reduceAdd, B2, t1, l2] <;> rfl) rfl ?_ | refine WOps.nG (by first | exact (guard_bool rfl rfl (by simp only [reduceIte, Nat.reduceEqDiff, Nat.reduceAdd, B2, t1, l2] <;> rfl)).trans rfl | exact guard_not rfl rfl (by simp only [reduceIte, Nat.reduceEqDiff, Nat.reduceAdd, B2, t1, l2] <;> rfl)) rfl ?_)
      refine WOps.cN (op_call1 (v := .agg [tv]) (by simp only [reduceIte, Nat.reduceEqDiff, Nat.reduceAdd, B3, t1] <;> rfl) Tryz.fn17 Tryz.ex17) (Tryz.c17 G M3.lowN (q.mono M3.ext) v.vt) rfl ?_
      ((repeat (first | refine WOps.a rfl (by simp only [reduceIte, Nat.reduceEqDiff, Nat.reduceAdd, B3, t1] <;> rfl) ?_ | refine WOps.b rfl rfl rfl (by simp only [reduceIte, Nat.reduceEqDiff, Nat.reduceAdd, B3, t1] <;> rfl) ?_)); refine WOps.nil ?_)
      refine WRun.region ?_
      iterate 2 (first | refine WOps.a rfl (by simp only [reduceIte, Nat.reduceEqDiff, Nat.reduceAdd, B3, t1, t3] <;> rfl) ?_ | refine WOps.vG ((guard_bool rfl rfl (by simp only [reduceIte, Nat.reduceEqDiff, Nat.reduceAdd, B3, t1, t3] <;> rfl)).trans rfl) (by simp only [reduceIte, Nat.reduceEqDiff, Nat.reduceAdd, B3, t1, t3] <;> rfl) rfl ?_ | refine WOps.nG (by first | exact (guard_bool rfl rfl (by simp only [reduceIte, Nat.reduceEqDiff, Nat.reduceAdd, B3, t1, t3] <;> rfl)).trans rfl | exact guard_not rfl rfl (by simp only [reduceIte, Nat.reduceEqDiff, Nat.reduceAdd, B3, t1, t3] <;> rfl)) rfl ?_)
      refine WOps.vN (op_buildSlice1 (v := .str (tabT t)) rfl (by simp only [reduceIte, Nat.reduceEqDiff, Nat.reduceAdd, B3, t1] <;> rfl) Tryz.ty52 Tryz.word52 rfl rfl) rfl ?_
      refine WOps.vN ((op_append (u := wv3) (v := .slice H3.next 0 1 1) (a := Tryz.y52) (a2 := Tryz.y52) (by simp only [reduceIte, Nat.reduceEqDiff, Nat.reduceAdd, B3, t3] <;> rfl) (by simp only [reduceIte, Nat.reduceEqDiff, Nat.reduceAdd, B3, t3] <;> rfl) Tryz.ty52 Tryz.ty52 rfl).trans ap) rfl ?_
      ((repeat (first | refine WOps.a rfl (by simp only [reduceIte, Nat.reduceEqDiff, Nat.reduceAdd, B3, t1] <;> rfl) ?_ | refine WOps.b rfl rfl rfl (by simp only [reduceIte, Nat.reduceEqDiff, Nat.reduceAdd, B3, t1] <;> rfl) ?_)); refine WOps.nil ?_)
      exact ⟨rfl, rfl, M', by omega, by rw [k' _ (by omega)]; exact hb3, (by simp only [reduceIte, Nat.reduceEqDiff, Nat.reduceAdd, B3, t1] <;> rfl), v', (by simp only [reduceIte, Nat.reduceEqDiff, Nat.reduceAdd, B3, t1] <;> rfl), by rw [if_pos rfl]; exact wv'⟩
    · have e : decide (k = 4) = false := by simpa using h4
      (first | refine WRun.condF (by simp only [reduceIte, Nat.reduceEqDiff, Nat.reduceAdd, B3, e] <;> rfl) ?_ | refine WRun.seq (WRun.condF (by simp only [reduceIte, Nat.reduceEqDiff, Nat.reduceAdd, B3, e] <;> rfl) ?_))
      exact WRun.skip ⟨rfl, rfl, M3, n3, hb3, (by simp only [reduceIte, Nat.reduceEqDiff, Nat.reduceAdd, B3, t1] <;> rfl), wv3, (by simp only [reduceIte, Nat.reduceEqDiff, Nat.reduceAdd, B3, t3] <;> rfl), by rw [if_neg h4, List.append_nil]; exact wv⟩
  clear t1 t3 wv M3 hb3 n3 l0 l2 wv3 T
  rintro T H4 ⟨M4, n4, hb4, t1, wv4, t3, wv⟩
  generalize hws : ((wordT k :: if 0 < m then [itoaK m] else []) ++ if k = 4 then [tabT t] else []) = ws at wv
  have hwl : ws.length ≤ 3 := by rw [← hws]; split <;> split <;> simp
  refine (show WRun Tryz.ctx S 10 Tryz.f10.ntmps none _ _ _ _ _ from ?_)
  have l3 := L3 hb4
  have rT := RowAt.rowT q.row
  have rl := rT.len
  have hll := q.ll
  (first | refine WRun.seq (WRun.region ?_) | refine WRun.seq (WRun.seq (WRun.region ?_)) | refine WRun.region ?_ | refine WRun.seq (WRun.seq (WRun.seq (WRun.region ?_)))); ((repeat (first | refine WOps.a rfl (by simp only [reduceIte, Nat.reduceEqDiff, Nat.reduceAdd, B2, t1, l3, rl] <;> rfl) ?_ | refine WOps.b rfl rfl rfl (by simp only [reduceIte, Nat.reduceEqDiff, Nat.reduceAdd, B2, t1, l3, rl] <;> rfl) ?_)); refine WOps.nil ?_)
  refine (show WRun Tryz.ctx S 10 Tryz.f10.ntmps none _ _ _ _ _ from ?_)
  refine WRun.block ?_
  refine WRun.loop (I := fun mm T h' => ∃ x : Nat, mm + x = l.length ∧ Mine h h' ∧ h.next + 1 ≤ h'.next ∧ ∃ w, T.get 3 = some w ∧ WVec (h.next + 1) h' w (ws ++ (l.take x).map itoaK) ∧ T.get 37 = some cv ∧ T.get 38 = some (.int .i64 l.length) ∧ T.get 39 = some (.int .i64 x)) (m := l.length) ?_
    ⟨0, by omega, M4, n4, wv4, (by simp only [reduceIte, Nat.reduceEqDiff, Nat.reduceAdd, B3, t3] <;> rfl), by rw [List.take_zero, List.map_nil, List.append_nil]; exact wv, (by simp only [reduceIte, Nat.reduceEqDiff, Nat.reduceAdd, B3, t1] <;> rfl), (by simp only [reduceIte, Nat.reduceEqDiff, Nat.reduceAdd, B3, t1] <;> rfl), (by simp only [reduceIte, Nat.reduceEqDiff, Nat.reduceAdd, B3, t1] <;> rfl)⟩
  clear t1 t3 wv M4 hb4 n4 l3 wv4 T
  rintro mm T H5 ⟨x, hmx, M5, n5, wv5, t3, wv, t37, t38, t39⟩
  by_cases hx : x < l.length
  · have hlt : ((x : Int) < (l.length : Int)) = True := by simp; exact hx
    have ad := add1 x (by omega)
    obtain ⟨c, hc⟩ : ∃ c, l[x]? = some c := ⟨_, List.getElem?_eq_getElem hx⟩
    obtain ⟨c0, c1⟩ := q.le c (List.mem_of_getElem? hc)
    obtain ⟨bb, o, a1, ld⟩ := rT.ent x c hc H5 M5.ext
    obtain ⟨v', H', ap, wv', M', nx', k'⟩ := wv.app M5 (by omega) (by omega) (itoaK c) (by rw [List.length_append, List.length_map, List.length_take]; omega)
    (first | refine WRun.seq (WRun.region ?_) | refine WRun.seq (WRun.seq (WRun.region ?_)) | refine WRun.region ?_ | refine WRun.seq (WRun.seq (WRun.seq (WRun.region ?_)))); ((repeat (first | refine WOps.a rfl (by simp only [reduceIte, Nat.reduceEqDiff, Nat.reduceAdd, B3, t38, t39, hlt] <;> rfl) ?_ | refine WOps.b rfl rfl rfl (by simp only [reduceIte, Nat.reduceEqDiff, Nat.reduceAdd, B3, t38, t39, hlt] <;> rfl) ?_)); refine WOps.nil ?_)
    (first | refine WRun.condT (by simp only [reduceIte, Nat.reduceEqDiff, Nat.reduceAdd, B3, hlt] <;> rfl) ?_ | refine WRun.seq (WRun.condT (by simp only [reduceIte, Nat.reduceEqDiff, Nat.reduceAdd, B3, hlt] <;> rfl) ?_))
    refine WRun.skip ?_
    refine WRun.seq (WRun.block ?_)
    (first | refine WRun.seq (WRun.region ?_) | refine WRun.seq (WRun.seq (WRun.region ?_)) | refine WRun.region ?_ | refine WRun.seq (WRun.seq (WRun.seq (WRun.region ?_)))); ((repeat (first | refine WOps.a rfl (by simp only [reduceIte, Nat.reduceEqDiff, Nat.reduceAdd, B2, t37, t39, a1, ld] <;> rfl) ?_ | refine WOps.b rfl rfl rfl (by simp only [reduceIte, Nat.reduceEqDiff, Nat.reduceAdd, B2, t37, t39, a1, ld] <;> rfl) ?_)); refine WOps.nil ?_)
    refine WRun.region ?_
    iterate 2 (first | refine WOps.a rfl (by simp only [reduceIte, Nat.reduceEqDiff, Nat.reduceAdd, B3, t3] <;> rfl) ?_ | refine WOps.vG ((guard_bool rfl rfl (by simp only [reduceIte, Nat.reduceEqDiff, Nat.reduceAdd, B3, t3] <;> rfl)).trans rfl) (by simp only [reduceIte, Nat.reduceEqDiff, Nat.reduceAdd, B3, t3] <;> rfl) rfl ?_ | refine WOps.nG (by first | exact (guard_bool rfl rfl (by simp only [reduceIte, Nat.reduceEqDiff, Nat.reduceAdd, B3, t3] <;> rfl)).trans rfl | exact guard_not rfl rfl (by simp only [reduceIte, Nat.reduceEqDiff, Nat.reduceAdd, B3, t3] <;> rfl)) rfl ?_)
    refine WOps.cN (op_call1 (v := .int .i64 c) (by simp only [reduceIte, Nat.reduceEqDiff, Nat.reduceAdd, B3, t3] <;> rfl) Tryz.fn16 Tryz.ex16) (Tryz.cItoa G.s16 c0 c1 _) rfl ?_
    refine WOps.vN (op_buildSlice1 (v := .str (itoaK c)) rfl (by simp only [reduceIte, Nat.reduceEqDiff, Nat.reduceAdd, B3, t3] <;> rfl) Tryz.ty52 Tryz.word52 rfl rfl) rfl ?_
    refine WOps.vN ((op_append (u := wv5) (v := .slice H5.next 0 1 1) (a := Tryz.y52) (a2 := Tryz.y52) (by simp only [reduceIte, Nat.reduceEqDiff, Nat.reduceAdd, B3, t3] <;> rfl) (by simp only [reduceIte, Nat.reduceEqDiff, Nat.reduceAdd, B3, t3] <;> rfl) Tryz.ty52 Tryz.ty52 rfl).trans ap) rfl ?_
    ((repeat (first | refine WOps.a rfl (by simp only [reduceIte, Nat.reduceEqDiff, Nat.reduceAdd, B3, t3] <;> rfl) ?_ | refine WOps.b rfl rfl rfl (by simp only [reduceIte, Nat.reduceEqDiff, Nat.reduceAdd, B3, t3] <;> rfl) ?_)); refine WOps.nil ?_)
    (first | refine WRun.seq (WRun.region ?_) | refine WRun.seq (WRun.seq (WRun.region ?_)) | refine WRun.region ?_ | refine WRun.seq (WRun.seq (WRun.seq (WRun.region ?_)))); ((repeat (first | refine WOps.a rfl (by simp only [reduceIte, Nat.reduceEqDiff, Nat.reduceAdd, B3, t39, ad] <;> rfl) ?_ | refine WOps.b rfl rfl rfl (by simp only [reduceIte, Nat.reduceEqDiff, Nat.reduceAdd, B3, t39, ad] <;> rfl) ?_)); refine WOps.nil ?_)
    exact ⟨rfl, mm - 1, by omega, x + 1, by omega, M', by omega, v', (by simp only [reduceIte, Nat.reduceEqDiff, Nat.reduceAdd, B3, t3] <;> rfl), by rw [take_snoc hc, List.map_append, ← List.append_assoc]; exact wv', (by simp only [reduceIte, Nat.reduceEqDiff, Nat.reduceAdd, B3, t37] <;> rfl), (by simp only [reduceIte, Nat.reduceEqDiff, Nat.reduceAdd, B3, t38] <;> rfl), (by simp only [reduceIte, Nat.reduceEqDiff, Nat.reduceAdd, B3, t39] <;> rfl)⟩
  · have hlt : ((x : Int) < (l.length : Int)) = False := by simp; omega
    rw [List.take_of_length_le (by omega)] at wv
    have hj : joinT [32] (ws ++ l.map itoaK) = fmtT k m t l := by
      rw [← hws]
      unfold VP at v
      unfold fmtT
      by_cases h3 : k = 3
      · subst h3
        rw [if_pos rfl] at v
        obtain ⟨rfl, rfl, m1, _⟩ := v
        rw [if_pos rfl, if_pos (by omega), if_neg (by decide)]
        simp [joinT]
      rw [if_neg h3] at v ⊢
      by_cases h4 : k = 4
      · subst h4
        rw [if_pos rfl] at v
        obtain ⟨rfl, rfl, _⟩ := v
        rw [if_pos rfl, if_pos rfl, if_neg (by decide)]
        simp [joinT]
      rw [if_neg h4] at v ⊢
      rw [if_neg h4]
      by_cases h5 : k = 5
      · subst h5
        rw [if_pos rfl] at v
        obtain ⟨rfl, m1, _, vt⟩ := v
        have hne : l ≠ [] := fun e => by
          have := (isTypeB_spec vt).2.2
          rw [e] at this
          simp at this
          omega
        rw [if_pos rfl, if_pos (by omega), List.append_nil]
        exact join_fmt5 _ _ hne
      rw [if_neg h5] at v ⊢
      obtain ⟨rfl, rfl, rfl, _⟩ := v
      rw [if_neg (by decide)]
      simp [joinT]
    have hfl : (fmtT k m t l).length ≤ 17000000 := by
      have h1 := wordT_len k
      have h2 := itoaK_len m
      have h3 := tabT_len t
      have h4 := rowT_len l
      have h5 := q.tw
      unfold fmtT
      split
      · simp only [List.length_append, List.length_cons, List.length_nil]; omega
      split
      · simp only [List.length_append, List.length_cons, List.length_nil]; omega
      split
      · simp only [List.length_append, List.length_cons, List.length_nil]; omega
      · omega
    have J := sJoin_eq wv.rowS (p := [32]) (by rw [List.length_append, List.length_map]; omega) (by rw [hj]; omega)
    rw [hj] at J
    (first | refine WRun.seq (WRun.region ?_) | refine WRun.seq (WRun.seq (WRun.region ?_)) | refine WRun.region ?_ | refine WRun.seq (WRun.seq (WRun.seq (WRun.region ?_)))); ((repeat (first | refine WOps.a rfl (by simp only [reduceIte, Nat.reduceEqDiff, Nat.reduceAdd, B3, t38, t39, hlt] <;> rfl) ?_ | refine WOps.b rfl rfl rfl (by simp only [reduceIte, Nat.reduceEqDiff, Nat.reduceAdd, B3, t38, t39, hlt] <;> rfl) ?_)); refine WOps.nil ?_)
    (first | refine WRun.condF (by simp only [reduceIte, Nat.reduceEqDiff, Nat.reduceAdd, B3, hlt] <;> rfl) ?_ | refine WRun.seq (WRun.condF (by simp only [reduceIte, Nat.reduceEqDiff, Nat.reduceAdd, B3, hlt] <;> rfl) ?_))
    refine WRun.exit ?_
    refine WRun.seq (WRun.region ?_)
    iterate 1 (first | refine WOps.a rfl (by simp only [reduceIte, Nat.reduceEqDiff, Nat.reduceAdd, B3, t3] <;> rfl) ?_ | refine WOps.vG ((guard_bool rfl rfl (by simp only [reduceIte, Nat.reduceEqDiff, Nat.reduceAdd, B3, t3] <;> rfl)).trans rfl) (by simp only [reduceIte, Nat.reduceEqDiff, Nat.reduceAdd, B3, t3] <;> rfl) rfl ?_ | refine WOps.nG (by first | exact (guard_bool rfl rfl (by simp only [reduceIte, Nat.reduceEqDiff, Nat.reduceAdd, B3, t3] <;> rfl)).trans rfl | exact guard_not rfl rfl (by simp only [reduceIte, Nat.reduceEqDiff, Nat.reduceAdd, B3, t3] <;> rfl)) rfl ?_)
    refine WOps.cN (op_call2 (v := wv5) (u := .str [32]) (by simp only [reduceIte, Nat.reduceEqDiff, Nat.reduceAdd, B3, t3] <;> rfl) rfl Tryz.fn26 Tryz.ex26) (RunCall.summ G.s26 J) rfl ?_
    ((repeat (first | refine WOps.a rfl (by simp only [reduceIte, Nat.reduceEqDiff, Nat.reduceAdd, B3, t3] <;> rfl) ?_ | refine WOps.b rfl rfl rfl (by simp only [reduceIte, Nat.reduceEqDiff, Nat.reduceAdd, B3, t3] <;> rfl) ?_)); refine WOps.nil ?_)
    exact WRun.ret ⟨trivial, rfl, M5.log, (by simp only [reduceIte, Nat.reduceEqDiff, Nat.reduceAdd, B3, t3] <;> rfl)⟩
end Go.Proofs
namespace Go.Proofs
open Go.Ev
set_option maxRecDepth 100000
/-- The last kind up to n whose word is f. -/
def kindTo (f : List UInt8) : Nat → Int
  | 0 => 0
  | n + 1 => if wordT ((n : Int) + 1) = f then (n : Int) + 1 else kindTo f n
theorem kindTo_bounds (f : List UInt8) : ∀ n : Nat, 0 ≤ kindTo f n ∧ kindTo f n ≤ n
  | 0 => ⟨by show (0 : Int) ≤ 0; omega, by show (0 : Int) ≤ 0; omega⟩
  | n + 1 => by
    have := kindTo_bounds f n
    unfold kindTo
    split <;> constructor <;> omega
def atoiO (s : List UInt8) : Option Int :=
  match Lib.atoiAll s with
  | .ok v => some v
  | _ => none
def numsO : List (List UInt8) → Option (List Int)
  | [] => some []
  | x :: l => match atoiO x with
    | some v => (match numsO l with
      | some ns => some (v :: ns)
      | none => none)
    | none => none
theorem numsO_snoc : ∀ {l : List (List UInt8)} {x : List UInt8} {ns : List Int} {v : Int}, numsO l = some ns → atoiO x = some v → numsO (l ++ [x]) = some (ns ++ [v])
  | [], x, ns, v, h, hv => by
    cases h
    show numsO [x] = _
    unfold numsO
    rw [hv]; rfl
  | y :: l, x, ns, v, h, hv => by
    rw [List.cons_append]
    unfold numsO at h ⊢
    cases hy : atoiO y with
    | none => rw [hy] at h; cases h
    | some u =>
      rw [hy] at h
      cases hl : numsO l with
      | none => simp only [hl] at h; cases h
      | some ms =>
        simp only [hl] at h
        cases h
        simp only [numsO_snoc hl hv]; rfl
theorem numsO_bad : ∀ {l : List (List UInt8)} {i : Nat} {x : List UInt8}, l[i]? = some x → atoiO x = none → numsO l = none
  | [], i, x, h, _ => by simp at h
  | y :: l, 0, x, h, hx => by
    have h : y = x := by simpa using h
    subst h
    unfold numsO
    rw [hx]
  | y :: l, i + 1, x, h, hx => by
    unfold numsO
    rw [numsO_bad (l := l) (by simpa using h) hx]
    cases atoiO y <;> rfl
theorem cAtoiX {S : Summ} (h23 : S.get 23 = some sAtoi) {s : List UInt8} (hs : s.length ≤ 1000000) (h : AH) :
    (∃ v, atoiO s = some v ∧ -9223372036854775808 ≤ v ∧ v ≤ 9223372036854775807 ∧ RunCall Tryz.ctx S 23 [.str s] h ⟨.tup [.int .i64 v, .nili], h⟩) ∨
      (atoiO s = none ∧ ∃ v, RunCall Tryz.ctx S 23 [.str s] h ⟨.tup [.int .i64 v, .iface 140 (.ptr h.next 0)], ⟨h.t, h.next + 1, h.mark, h.log⟩⟩) := by
  unfold atoiO
  rcases q : Lib.atoiAll s with v | _ | _
  · have := Lib.atoiAll_bounds q
    exact .inl ⟨v, rfl, this.1, this.2, RunCall.summ h23 (by unfold sAtoi; simp only [hs, if_true, q])⟩
  · exact .inr ⟨rfl, 0, RunCall.summ h23 (by unfold sAtoi; simp only [hs, if_true, q])⟩
  · exact .inr ⟨rfl, _, RunCall.summ h23 (by unfold sAtoi; simp only [hs, if_true, q]; rfl)⟩
theorem cCut {S : Summ} (h20 : S.get 20 = some sCut) {s p : List UInt8} (hs : s.length < 4294967281) (h : AH) :
    RunCall Tryz.ctx S 20 [.str s, .str p] h ⟨.tup [.str (Lib.cut s p).1, .str (Lib.cut s p).2.1, .bool (Lib.cut s p).2.2], h⟩ := RunCall.summ h20 (by unfold sCut; simp only [hs, if_true])
theorem cSplit {S : Summ} (h22 : S.get 22 = some sSplit) {s p : List UInt8} (hs : s.length < 4294967281) (hp : 1 ≤ p.length) (h : AH) :
    RunCall Tryz.ctx S 22 [.str s, .str p] h ⟨.slice h.next 0 (splitL s p).length (splitL s p).length, h.add (.cells ((splitL s p).map .str) 0)⟩ := RunCall.summ h22 (by unfold sSplit; simp only [hs, hp, and_self, if_true])
theorem cut_len (s p : List UInt8) : (Lib.cut s p).2.1.length ≤ s.length := by
  unfold Lib.cut
  split
  · show (s.drop _).length ≤ _
    rw [List.length_drop]; omega
  · exact Nat.zero_le _
theorem splitL_eq (s p : List UInt8) : splitL s p = Lib.splitK p 0 (Lib.count s p) s := by
  unfold splitL
  rw [Lib.splitB_data]
theorem splitK_le (p : List UInt8) : ∀ (k : Nat) (s : List UInt8), (Lib.splitK p 0 k s).length ≤ k + 1 ∧ ∀ x ∈ Lib.splitK p 0 k s, x.length ≤ s.length
  | 0, s => ⟨Nat.le_refl _, fun x hx => by
    have hx : x = s := by simpa [Lib.splitK] using hx
    rw [hx]; exact Nat.le_refl _⟩
  | k + 1, s => by
    unfold Lib.splitK
    split
    · exact ⟨by simp, fun x hx => by
        have hx : x = s := by simpa using hx
        rw [hx]; exact Nat.le_refl _⟩
    · have ih := splitK_le p k (s.drop ((Lib.index s p).toNat + p.length))
      refine ⟨by rw [List.length_cons]; omega, fun x hx => ?_⟩
      rcases List.mem_cons.1 hx with rfl | hx
      · rw [List.length_take]; omega
      · have := ih.2 x hx
        rw [List.length_drop] at this
        omega
theorem splitL_len {s p : List UInt8} (hp : 1 ≤ p.length) : (splitL s p).length ≤ s.length + 1 := by
  have h := (splitK_le p (Lib.count s p) s).1
  have hc : Lib.countB ⟨s.toArray⟩ ⟨p.toArray⟩ ≤ (⟨s.toArray⟩ : ByteArray).size := Lib.countB_le ⟨p.toArray⟩ (by show 1 ≤ p.toArray.size; simpa using hp) _ _ (Nat.le_refl _)
  have hc : Lib.count s p ≤ s.length := by
    have : (⟨s.toArray⟩ : ByteArray).size = s.length := by show s.toArray.size = _; simp
    rw [this] at hc
    exact hc
  rw [splitL_eq]; omega
theorem splitL_mem {s p x : List UInt8} (hx : x ∈ splitL s p) : x.length ≤ s.length := by
  rw [splitL_eq] at hx
  exact (splitK_le p _ s).2 x hx
/-- What has been read. -/
def Read (Q : List UInt8 → List (List Int) → Prop) (s : List UInt8) (k m : Int) (t : List (List Int)) (l : List Int) : Prop :=
  k = kindTo (Lib.cut s [32]).1 9 ∧ if k = 4 then m = 0 ∧ l = [] ∧ Q (Lib.cut s [32]).2.1 t else if (Lib.cut s [32]).2.2 = true then t = [] ∧ numsO (splitL (Lib.cut s [32]).2.1 [32]) = some (m :: l) else t = [] ∧ m = 0 ∧ l = []
/-- What can't be read. -/
def BadP (s : List UInt8) : Prop := kindTo (Lib.cut s [32]).1 9 ≠ 4 ∧ (Lib.cut s [32]).2.2 = true ∧ numsO (splitL (Lib.cut s [32]).2.1 [32]) = none
def zero4 : List AV := [.int .i64 0, .int .i64 0, .nils, .nils]
/-- What Parse hands back. -/
def Res8 (Q : List UInt8 → List (List Int) → Prop) (lo : Nat) (s : List UInt8) (H : AH) (x : Int) (pv : AV) : Prop :=
  (x = 3 ∧ pv = .agg zero4 ∧ (BadP s ∨ ∃ k m t l, Read Q s k m t l ∧ ¬(VP k m t l ∧ fmtT k m t l = s))) ∨
  (x = 0 ∧ ∃ k m tv cv t R l, pv = .agg [.int .i64 k, .int .i64 m, tv, cv] ∧ PrV H m tv cv t R l ∧ NewV lo tv t ∧ NewV lo cv l ∧ Read Q s k m t l ∧ VP k m t l ∧ fmtT k m t l = s)
theorem over_full {α : Type} : ∀ {xs c : List α}, xs.length = c.length → over xs c = some xs
  | [], [], _ => rfl
  | x :: xs, [], h => by simp at h
  | [], y :: c, h => by simp at h
  | x :: xs, y :: c, h => by
    show (match over xs c with | some r => some (x :: r) | none => none) = _
    rw [over_full (by simpa using h)]
theorem store27 {h : AH} {b fz : Nat} {p q r s : AV} {c : List AV} (hp : p.one = true) (hq : q.one = true) (hr : r.one = true) (hs : s.one = true) (hb : h.t.get b = some (.cells c fz)) (hf : fz / 65536 = 0) (hc : c.length = 4) :
    evStore Tryz.y27 (.ptr b 0) (.agg [p, q, r, s]) h = .skip (h.set b (.cells [p, q, r, s] fz)) := by
  unfold evStore
  show R.ofSkip (writeCells h b 0 [p, q, r, s]) = _
  have : writeCells h b 0 [p, q, r, s] = some (h.set b (.cells [p, q, r, s] fz)) := by
    unfold writeCells cellsAt
    rw [hb]
    show cnd (Nat.ble (Nat.div fz 65536) 0 && allOne [p, q, r, s]) (oe none (over [p, q, r, s] c) fun c' => some (h.set b (.cells c' fz))) none = _
    have h1 : Nat.ble (Nat.div fz 65536) 0 = true := ble_iff.2 (by show fz / 65536 ≤ 0; omega)
    have h2 : allOne [p, q, r, s] = true := by
      show cnd p.one (cnd q.one (cnd r.one (cnd s.one true false) false) false) false = true
      rw [hp, hq, hr, hs]; rfl
    rw [h1, h2, over_full (by rw [hc]; rfl)]
    rfl
  rw [this]
  rfl
theorem load27 {H : AH} {b fz : Nat} {p q r s : AV} (hb : H.t.get b = some (.cells [p, q, r, s] fz)) : evLoad Tryz.y27 (.ptr b 0) H = .val (.agg [p, q, r, s]) H := by
  rw [load_ptr, hb]; rfl
theorem atEnd8 {e : X} {T : PT AV} {H : AH} {a z : Nat} {p q r s : AV} {x : Int} (he : (match e with | .norm => True | .ret => True | _ => False)) (t2 : T.get 2 = some (.ptr a 0)) (t3 : T.get 3 = some (.int .i64 x))
    (ha : H.t.get a = some (.cells [p, q, r, s] z)) : atEnd Tryz.ctx Tryz.f8 ⟨e, T, [], H⟩ = .one ⟨.tup [.agg [p, q, r, s], .int .i64 x], H⟩ := by
  have k1 : known H a = some ([p, q, r, s], z) := by unfold known; rw [ha]
  have hres : Tryz.f8.results.toList = [.cell 2 27, .tmp 3] := rfl
  have r1 : resOf Tryz.ctx.ty T H (.cell 2 27) = some (.agg [p, q, r, s]) := by unfold resOf; simp only [Tryz.ty27, t2, k1]; rfl
  have r2 : resOf Tryz.ctx.ty T H (.tmp 3) = some (.int .i64 x) := by unfold resOf; simp only [t3]
  unfold atEnd
  cases e <;> first | (exact he.elim; done) | (simp only [dropMarks, hres, ressOf, r1, r2]; rfl)
theorem _root_.Go.Ev.Mine.out21 {h H h' : AH} {e : Int} {tv : AV} (M : Mine h H) (o : Out21 H e tv h') : Mine h h' :=
  ⟨M.ext.trans o.ext, M.low, o.lowN, Nat.le_trans M.next o.next, by rw [o.mark, M.mark], by rw [o.log, M.log]⟩
/-- quandle.Parse is walked; Q: what is known of the table. -/
def Has21 (S : Summ) (Q : List UInt8 → List (List Int) → Prop) : Prop :=
  ∀ (H : AH), (∀ b x, H.t.get b = some x → b < H.next) → ∀ s : List UInt8, s.length ≤ 10000 → ∃ tv e h' t R, RunCall Tryz.ctx S 21 [.str s] H ⟨.tup [.agg [tv], .int .i64 e], h'⟩ ∧ Out21 H e tv h' ∧
    (∀ H' : AH, (∀ c, H.next ≤ c → H'.t.get c = h'.t.get c) → TabT H' tv t R) ∧ NewV H.next tv t ∧ t.length ≤ 10001 ∧ wt t ≤ 16000000 ∧ (∀ l ∈ t, ∀ x ∈ l, 0 ≤ x ∧ x ≤ 30) ∧ Q s t
/-- The functions that Parse reaches. -/
structure GetsP (S : Summ) : Prop where
  s8 : S.get 8 = none
  s23 : S.get 23 = some sAtoi
  s20 : S.get 20 = some sCut
  s22 : S.get 22 = some sSplit
