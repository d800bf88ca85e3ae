/- Part of the proof. -/
import Derived.Test.YtggkgmmhblamfaaGreatDoorTWH
import Derived.Test.YtggkgmmhblamfaaGreatDoorTWD
set_option linter.all false
namespace Go.Proofs
open Go.Ev
set_option maxRecDepth 100000
theorem Tryz.word52 : Word Tryz.y52 Tryz.y9 Tryz.ctx.ty 9 := ⟨rfl, Tryz.ty9, rfl, by decide +kernel, by decide +kernel, rfl⟩
theorem fz10 : fzNew 9 = 10 := by decide +kernel
end Go.Proofs
namespace Go.Ev
theorem append_slice1 {ty : PT ATy} {a ae : ATy} {e b fz : Nat} {h : AH} {v x y : AV} (W : Word a ae ty e) (hk : lenOf x = some 1) (hx : elems h 1 1 x = some [y]) (hb : h.t.get b = some (.cells [v] fz)) :
    evAppend ty a (.slice b 0 1 1) x h = .val (.sliceU h.next 0 2 1) (h.add (.cells [v, y] (fzNew e))) := by
  rw [append_pre W hk hx rfl]
  show forceN (1 + 1) (fun need => cnd (Nat.ble need 1) (appendHere (.slice b 0 need 1) b (Nat.add 0 (Nat.mul 1 ae.size)) [y] h)
              (cnd (Nat.ble need limit && Nat.ble 1 limit) (appendNew e ae (.slice b 0 1 1) 1 need [y] h) .fail)) = _
  rw [forceN_eq]
  show appendNew e ae (.slice b 0 1 1) 1 2 [y] h = _
  unfold appendNew
  have he : elems h ae.size 1 (.slice b 0 1 1) = some [v] := by
    rw [W.size]
    show (match known h b with | some (c, _) => sub c 0 (Nat.mul 1 1) | none => none) = _
    have : known h b = some ([v], fz) := by unfold known; rw [hb]
    rw [this]
    rfl
  rw [he]
  show forceL ([v] ++ [y]) (fun l => forceN h.next fun b => forceN (fzNew e) fun fz => R.val (.sliceU b 0 2 ae.size) (h.add (.cells l fz))) = _
  rw [forceL_eq, forceN_eq, forceN_eq, W.size]
  rfl
end Go.Ev
namespace Go.Proofs
open Go.Ev
def strsAV (l : List (List UInt8)) : List AV := l.map AV.str
/-- The words so far. -/
def WVec (lo : Nat) (H : AH) (v : AV) (xs : List (List UInt8)) : Prop :=
  (∃ b x, v = .slice b 0 1 1 ∧ lo ≤ b ∧ H.t.get b = some (.cells [.str x] 0) ∧ xs = [x]) ∨ VecI lo H v (strsAV xs)
theorem WVec.rowS {lo : Nat} {H : AH} {v : AV} {xs : List (List UInt8)} (r : WVec lo H v xs) : RowS H v xs := by
  rcases r with ⟨b, x, rfl, _, hb, rfl⟩ | r
  · refine .inr ⟨b, 0, 1, _, 0, .inl ⟨rfl, Nat.le_refl _⟩, hb, fun i y hy => ?_⟩
    cases i with
    | zero => have hy : x = y := by simpa using hy
              subst hy; rfl
    | succ i => simp at hy
  · rcases r with ⟨rfl, e⟩ | ⟨b, fz, rfl, _, hb, _⟩
    · exact .inl ⟨rfl, List.map_eq_nil_iff.1 e⟩
    · refine .inr ⟨b, 0, 0, _, fz, .inr (by unfold strsAV; rw [List.length_map]), hb, fun i y hy => ?_⟩
      unfold strsAV
      rw [Nat.zero_add, List.getElem?_map, hy]
      rfl
theorem Own.mine {h h' : AH} (o : Own h h') (hm : h'.mark = h.next) (hl : h'.log = []) : Mine h h' := ⟨o.ext, o.low, o.lowN, o.next, hm, hl⟩
theorem WVec.app {lo : Nat} {h H : AH} {v : AV} {xs : List (List UInt8)} (r : WVec lo H v xs) (M : Mine h H) (hlo : h.next ≤ lo) (hn : lo ≤ H.next) (x : List UInt8) (hbig : xs.length + 1 ≤ 16777216) :
    ∃ v' H', evAppend Tryz.ctx.ty Tryz.y52 v (.slice H.next 0 1 1) (H.add (.cells [.str x] 0)) = .val v' H' ∧ WVec lo H' v' (xs ++ [x]) ∧ Mine h H' ∧ H.next ≤ H'.next ∧ ∀ c, c < lo → H'.t.get c = H.t.get c := by
  have hlit : (H.add (.cells [.str x] 0)).t.get H.next = some (.cells [.str x] 0) := get_add_self
  rcases r with ⟨b, y, rfl, hb, hbb, rfl⟩ | r
  · have hbl := M.lowN _ _ hbb
    have hb' : (H.add (.cells [.str x] 0)).t.get b = some (.cells [.str y] 0) := by rw [get_add, if_neg (by omega)]; exact hbb
    refine ⟨_, _, append_slice1 Tryz.word52 (y := .str x) rfl (elems_lit hlit) hb', .inr (.inr ⟨_, fzNew 9, rfl, by rw [next_add]; omega, get_add_self, by rw [fz10]; exact Nat.zero_le _, by simp [strsAV]⟩), (M.add _).add _, by rw [next_add, next_add]; omega, fun c hc => ?_⟩
    rw [get_add, if_neg (by rw [next_add]; omega), get_add, if_neg (by omega)]
  · obtain ⟨b', H', ap, V', O', m', l', _, hb2, k'⟩ := r.app Tryz.word52 (Own.ofMine M) hlo hn (x := .str x) rfl (by unfold strsAV; rw [List.length_map]; exact hbig) (by rw [fz10])
    refine ⟨_, H', ap, .inr ?_, O'.mine (by rw [m', M.mark]) (by rw [l' M.mark, M.log]), by omega, fun c hc => k' c (by omega) fun n => r.ne hc n⟩
    have : strsAV (xs ++ [x]) = strsAV xs ++ [.str x] := by unfold strsAV; rw [List.map_append]; rfl
    rw [this]
    exact V'
theorem join_fmt3 (w a : List UInt8) : joinT [32] [w, a] = w ++ ([32] ++ a) := by simp [joinT]
theorem join_fmt5 (w a : List UInt8) {l : List Int} (h : l ≠ []) : joinT [32] (w :: a :: l.map itoaK) = w ++ ((([32] ++ a) ++ [32]) ++ rowT l) := by
  cases l with
  | nil => exact absurd rfl h
  | cons x l => simp [joinT, rowT]
end Go.Proofs
namespace Go.Proofs
open Go.Ev
set_option maxRecDepth 100000
/-- The last kind up to n whose word is f. -/
def kindTo (f : List UInt8) : Nat → Int
  | 0 => 0
  | n + 1 => if wordT ((n : Int) + 1) = f then (n : Int) + 1 else kindTo f n
theorem kindTo_bounds (f : List UInt8) : ∀ n : Nat, 0 ≤ kindTo f n ∧ kindTo f n ≤ n
  | 0 => ⟨by show (0 : Int) ≤ 0; omega, by show (0 : Int) ≤ 0; omega⟩
  | n + 1 => by
    have := kindTo_bounds f n
    unfold kindTo
    split <;> constructor <;> omega
def atoiO (s : List UInt8) : Option Int :=
  match Lib.atoiAll s with
  | .ok v => some v
  | _ => none
def numsO : List (List UInt8) → Option (List Int)
  | [] => some []
  | x :: l => match atoiO x with
    | some v => (match numsO l with
      | some ns => some (v :: ns)
      | none => none)
    | none => none
theorem numsO_snoc : ∀ {l : List (List UInt8)} {x : List UInt8} {ns : List Int} {v : Int}, numsO l = some ns → atoiO x = some v → numsO (l ++ [x]) = some (ns ++ [v])
  | [], x, ns, v, h, hv => by
    cases h
    show numsO [x] = _
    unfold numsO
    rw [hv]; rfl
  | y :: l, x, ns, v, h, hv => by
    rw [List.cons_append]
    unfold numsO at h ⊢
    cases hy : atoiO y with
    | none => rw [hy] at h; cases h
    | some u =>
      rw [hy] at h
      cases hl : numsO l with
      | none => simp only [hl] at h; cases h
      | some ms =>
        simp only [hl] at h
        cases h
        simp only [numsO_snoc hl hv]; rfl
theorem numsO_bad : ∀ {l : List (List UInt8)} {i : Nat} {x : List UInt8}, l[i]? = some x → atoiO x = none → numsO l = none
  | [], i, x, h, _ => by simp at h
  | y :: l, 0, x, h, hx => by
    have h : y = x := by simpa using h
    subst h
    unfold numsO
    rw [hx]
  | y :: l, i + 1, x, h, hx => by
    unfold numsO
    rw [numsO_bad (l := l) (by simpa using h) hx]
    cases atoiO y <;> rfl
theorem cAtoiX {S : Summ} (h23 : S.get 23 = some sAtoi) {s : List UInt8} (hs : s.length ≤ 1000000) (h : AH) :
    (∃ v, atoiO s = some v ∧ -9223372036854775808 ≤ v ∧ v ≤ 9223372036854775807 ∧ RunCall Tryz.ctx S 23 [.str s] h ⟨.tup [.int .i64 v, .nili], h⟩) ∨
      (atoiO s = none ∧ ∃ v, RunCall Tryz.ctx S 23 [.str s] h ⟨.tup [.int .i64 v, .iface 140 (.ptr h.next 0)], ⟨h.t, h.next + 1, h.mark, h.log⟩⟩) := by
  unfold atoiO
  rcases q : Lib.atoiAll s with v | _ | _
  · have := Lib.atoiAll_bounds q
    exact .inl ⟨v, rfl, this.1, this.2, RunCall.summ h23 (by unfold sAtoi; simp only [hs, if_true, q])⟩
  · exact .inr ⟨rfl, 0, RunCall.summ h23 (by unfold sAtoi; simp only [hs, if_true, q])⟩
  · exact .inr ⟨rfl, _, RunCall.summ h23 (by unfold sAtoi; simp only [hs, if_true, q]; rfl)⟩
theorem cCut {S : Summ} (h20 : S.get 20 = some sCut) {s p : List UInt8} (hs : s.length < 4294967281) (h : AH) :
    RunCall Tryz.ctx S 20 [.str s, .str p] h ⟨.tup [.str (Lib.cut s p).1, .str (Lib.cut s p).2.1, .bool (Lib.cut s p).2.2], h⟩ := RunCall.summ h20 (by unfold sCut; simp only [hs, if_true])
theorem cSplit {S : Summ} (h22 : S.get 22 = some sSplit) {s p : List UInt8} (hs : s.length < 4294967281) (hp : 1 ≤ p.length) (h : AH) :
    RunCall Tryz.ctx S 22 [.str s, .str p] h ⟨.slice h.next 0 (splitL s p).length (splitL s p).length, h.add (.cells ((splitL s p).map .str) 0)⟩ := RunCall.summ h22 (by unfold sSplit; simp only [hs, hp, and_self, if_true])
theorem cut_len (s p : List UInt8) : (Lib.cut s p).2.1.length ≤ s.length := by
  unfold Lib.cut
  split
  · show (s.drop _).length ≤ _
    rw [List.length_drop]; omega
  · exact Nat.zero_le _
theorem splitL_eq (s p : List UInt8) : splitL s p = Lib.splitK p 0 (Lib.count s p) s := by
  unfold splitL
  rw [Lib.splitB_data]
theorem splitK_le (p : List UInt8) : ∀ (k : Nat) (s : List UInt8), (Lib.splitK p 0 k s).length ≤ k + 1 ∧ ∀ x ∈ Lib.splitK p 0 k s, x.length ≤ s.length
  | 0, s => ⟨Nat.le_refl _, fun x hx => by
    have hx : x = s := by simpa [Lib.splitK] using hx
    rw [hx]; exact Nat.le_refl _⟩
  | k + 1, s => by
    unfold Lib.splitK
    split
    · exact ⟨by simp, fun x hx => by
        have hx : x = s := by simpa using hx
        rw [hx]; exact Nat.le_refl _⟩
    · have ih := splitK_le p k (s.drop ((Lib.index s p).toNat + p.length))
      refine ⟨by rw [List.length_cons]; omega, fun x hx => ?_⟩
      rcases List.mem_cons.1 hx with rfl | hx
      · rw [List.length_take]; omega
      · have := ih.2 x hx
        rw [List.length_drop] at this
        omega
theorem splitL_len {s p : List UInt8} (hp : 1 ≤ p.length) : (splitL s p).length ≤ s.length + 1 := by
  have h := (splitK_le p (Lib.count s p) s).1
  have hc : Lib.countB ⟨s.toArray⟩ ⟨p.toArray⟩ ≤ (⟨s.toArray⟩ : ByteArray).size := Lib.countB_le ⟨p.toArray⟩ (by show 1 ≤ p.toArray.size; simpa using hp) _ _ (Nat.le_refl _)
  have hc : Lib.count s p ≤ s.length := by
    have : (⟨s.toArray⟩ : ByteArray).size = s.length := by show s.toArray.size = _; simp
    rw [this] at hc
    exact hc
  rw [splitL_eq]; omega
theorem splitL_mem {s p x : List UInt8} (hx : x ∈ splitL s p) : x.length ≤ s.length := by
  rw [splitL_eq] at hx
  exact (splitK_le p _ s).2 x hx
/-- What has been read. -/
def Read (Q : List UInt8 → List (List Int) → Prop) (s : List UInt8) (k m : Int) (t : List (List Int)) (l : List Int) : Prop :=
  k = kindTo (Lib.cut s [32]).1 9 ∧ if k = 4 then m = 0 ∧ l = [] ∧ Q (Lib.cut s [32]).2.1 t else if (Lib.cut s [32]).2.2 = true then t = [] ∧ numsO (splitL (Lib.cut s [32]).2.1 [32]) = some (m :: l) else t = [] ∧ m = 0 ∧ l = []
/-- What can't be read. -/
def BadP (s : List UInt8) : Prop := kindTo (Lib.cut s [32]).1 9 ≠ 4 ∧ (Lib.cut s [32]).2.2 = true ∧ numsO (splitL (Lib.cut s [32]).2.1 [32]) = none
def zero4 : List AV := [.int .i64 0, .int .i64 0, .nils, .nils]
/-- What Parse hands back. -/
def Res8 (Q : List UInt8 → List (List Int) → Prop) (lo : Nat) (s : List UInt8) (H : AH) (x : Int) (pv : AV) : Prop :=
  (x = 3 ∧ pv = .agg zero4 ∧ (BadP s ∨ ∃ k m t l, Read Q s k m t l ∧ ¬(VP k m t l ∧ fmtT k m t l = s))) ∨
  (x = 0 ∧ ∃ k m tv cv t R l, pv = .agg [.int .i64 k, .int .i64 m, tv, cv] ∧ PrV H m tv cv t R l ∧ NewV lo tv t ∧ NewV lo cv l ∧ Read Q s k m t l ∧ VP k m t l ∧ fmtT k m t l = s)
theorem over_full {α : Type} : ∀ {xs c : List α}, xs.length = c.length → over xs c = some xs
  | [], [], _ => rfl
  | x :: xs, [], h => by simp at h
  | [], y :: c, h => by simp at h
  | x :: xs, y :: c, h => by
    show (match over xs c with | some r => some (x :: r) | none => none) = _
    rw [over_full (by simpa using h)]
theorem store27 {h : AH} {b fz : Nat} {p q r s : AV} {c : List AV} (hp : p.one = true) (hq : q.one = true) (hr : r.one = true) (hs : s.one = true) (hb : h.t.get b = some (.cells c fz)) (hf : fz / 65536 = 0) (hc : c.length = 4) :
    evStore Tryz.y27 (.ptr b 0) (.agg [p, q, r, s]) h = .skip (h.set b (.cells [p, q, r, s] fz)) := by
  unfold evStore
  show R.ofSkip (writeCells h b 0 [p, q, r, s]) = _
  have : writeCells h b 0 [p, q, r, s] = some (h.set b (.cells [p, q, r, s] fz)) := by
    unfold writeCells cellsAt
    rw [hb]
    show cnd (Nat.ble (Nat.div fz 65536) 0 && allOne [p, q, r, s]) (oe none (over [p, q, r, s] c) fun c' => some (h.set b (.cells c' fz))) none = _
    have h1 : Nat.ble (Nat.div fz 65536) 0 = true := ble_iff.2 (by show fz / 65536 ≤ 0; omega)
    have h2 : allOne [p, q, r, s] = true := by
      show cnd p.one (cnd q.one (cnd r.one (cnd s.one true false) false) false) false = true
      rw [hp, hq, hr, hs]; rfl
    rw [h1, h2, over_full (by rw [hc]; rfl)]
    rfl
  rw [this]
  rfl
theorem load27 {H : AH} {b fz : Nat} {p q r s : AV} (hb : H.t.get b = some (.cells [p, q, r, s] fz)) : evLoad Tryz.y27 (.ptr b 0) H = .val (.agg [p, q, r, s]) H := by
  rw [load_ptr, hb]; rfl
theorem atEnd8 {e : X} {T : PT AV} {H : AH} {a z : Nat} {p q r s : AV} {x : Int} (he : (match e with | .norm => True | .ret => True | _ => False)) (t2 : T.get 2 = some (.ptr a 0)) (t3 : T.get 3 = some (.int .i64 x))
    (ha : H.t.get a = some (.cells [p, q, r, s] z)) : atEnd Tryz.ctx Tryz.f8 ⟨e, T, [], H⟩ = .one ⟨.tup [.agg [p, q, r, s], .int .i64 x], H⟩ := by
  have k1 : known H a = some ([p, q, r, s], z) := by unfold known; rw [ha]
  have hres : Tryz.f8.results.toList = [.cell 2 27, .tmp 3] := rfl
  have r1 : resOf Tryz.ctx.ty T H (.cell 2 27) = some (.agg [p, q, r, s]) := by unfold resOf; simp only [Tryz.ty27, t2, k1]; rfl
  have r2 : resOf Tryz.ctx.ty T H (.tmp 3) = some (.int .i64 x) := by unfold resOf; simp only [t3]
  unfold atEnd
  cases e <;> first | (exact he.elim; done) | (simp only [dropMarks, hres, ressOf, r1, r2]; rfl)
theorem _root_.Go.Ev.Mine.out21 {h H h' : AH} {e : Int} {tv : AV} (M : Mine h H) (o : Out21 H e tv h') : Mine h h' :=
  ⟨M.ext.trans o.ext, M.low, o.lowN, Nat.le_trans M.next o.next, by rw [o.mark, M.mark], by rw [o.log, M.log]⟩
/-- quandle.Parse is walked; Q: what is known of the table. -/
def Has21 (S : Summ) (D : List UInt8 → Prop) (Q : List UInt8 → List (List Int) → Prop) : Prop :=
  ∀ (H : AH), (∀ b x, H.t.get b = some x → b < H.next) → ∀ s : List UInt8, D s → ∃ tv e h' t R, RunCall Tryz.ctx S 21 [.str s] H ⟨.tup [.agg [tv], .int .i64 e], h'⟩ ∧ Out21 H e tv h' ∧
    (∀ H' : AH, (∀ c, H.next ≤ c → H'.t.get c = h'.t.get c) → TabT H' tv t R) ∧ NewV H.next tv t ∧ t.length ≤ 10001 ∧ wt t ≤ 16000000 ∧ (∀ l ∈ t, ∀ x ∈ l, 0 ≤ x ∧ x ≤ 30) ∧ Q s t
/-- The functions that Parse reaches. -/
structure GetsP (S : Summ) : Prop where
  s8 : S.get 8 = none
  s23 : S.get 23 = some sAtoi
  s20 : S.get 20 = some sCut
  s22 : S.get 22 = some sSplit
