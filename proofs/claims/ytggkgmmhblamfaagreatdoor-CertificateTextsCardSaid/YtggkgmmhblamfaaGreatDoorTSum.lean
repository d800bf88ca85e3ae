/- The summaries of the law: closed calls, the library's contracts. -/
import Derived.Test.YtggkgmmhblamfaaGreatDoorTWJ
import Derived.Test.YtggkgmmhblamfaaGreatDoorTAw
import Derived.Test.YtggkgmmhblamfaaGreatDoorTCtx
import Derived.Test.YtggkgmmhblamfaaGreatDoorTWN
set_option linter.all false
namespace Go.Proofs
open Go.Ev
set_option maxRecDepth 1000000
noncomputable def Tryz.M9 : Memo := ⟨[.agg zero4, .agg zero4], [], ⟨.norm, [(.bool true)], 10, [], []⟩⟩
theorem Tryz.M9_chk : chkMemo Tryz.ctx Tryz.S15 1000000 9 Tryz.M9 = true := by kernel_rfl
theorem memo_plain {m : Memo} {v : AV} (args : List AV) (ha : m.args = args) (hb : m.blocks = []) (hi : idsL args [] = []) (hr : renL (renId 10 []) args = some args) (he : beqL args args = true) (hk : m.okay 10 = true) (hres : m.res = ⟨.norm, [v], 10, [], []⟩) (hv : renV (backId 10 0 10 [] 0) v = some v)
    (hv' : ∀ n, renV (backId 10 0 10 [] n) v = renV (backId 10 0 10 [] 0) v) (h : AH) : memoOne 10 m args h = .one ⟨v, h⟩ := by
  unfold memoOne
  rw [forceL_eq, hi]
  have h0 : reach h.t 10 100000 [] [] = [] := rfl
  have h1 : (nodup [] && ([] : List Nat).all fun b => Nat.ble 10 b) = true := by kernel_rfl
  have h2 : renNew (renId 10 []) h.t [] 10 = some [] := rfl
  have h3 : beqD ([] : List (Nat × Option ABlock)) [] = true := by kernel_rfl
  rw [h0, h1, hr, h2]
  show cnd (beqL args m.args && beqD [] m.blocks && m.okay 10) _ _ = _
  rw [ha, hb, he, h3, hk]
  show memoBack _ _ _ _ = _
  unfold memoBack
  have hn : m.n = 0 := by unfold Memo.n; rw [hb]; rfl
  rw [hn, hres]
  have h4 : renL (backId 10 0 10 [] h.next) [v] = some [v] := by
    show (match renV (backId 10 0 10 [] h.next) v with | some v => (match some [] with | some vs => some (v :: vs) | none => none) | none => none) = _
    rw [hv', hv]
  show (match renL (backId 10 0 10 [] h.next) [v], backD (backId 10 0 10 [] h.next) [], backN (backId 10 0 10 [] h.next) [] with
    | some [v], some ds, some log => PT.force (putAll ds h.t) fun t => forceN (Nat.add h.next (Nat.sub 10 (Nat.add 10 0))) fun nxt => Res.one (V.mk v ⟨t, nxt, h.mark, mergeLog h.mark h.log log⟩)
    | _, _, _ => .fail) = _
  rw [h4]
  show PT.force h.t (fun t => forceN _ fun nxt => Res.one (V.mk v ⟨t, nxt, h.mark, mergeLog h.mark h.log []⟩)) = _
  rw [PT.force_eq, forceN_eq]
  rfl
theorem memos_one {m : Memo} {args : List AV} {h : AH} {r : V} (e : memoOne 10 m args h = .one r) : memos 10 [m] args h = .one r := by
  unfold memos
  show Res.rec (motive := fun _ => Res V) _ _ _ (memoOne 10 m args h) = _
  rw [e]
theorem Tryz.aw (h : AH) : memos 10 [Tryz.Maw] [] h = .one ⟨.bool true, h⟩ :=
  memos_one (memo_plain [] rfl rfl rfl rfl (by kernel_rfl) (by kernel_rfl) rfl rfl (fun _ => rfl) h)
theorem Tryz.sm (h : AH) : memos 10 [Tryz.M9] [.agg zero4, .agg zero4] h = .one ⟨.bool true, h⟩ :=
  memos_one (memo_plain _ rfl rfl rfl rfl (by kernel_rfl) (by kernel_rfl) rfl rfl (fun _ => rfl) h)
noncomputable def Tryz.SP : Summ := PT.put (some sJoin) (PT.put (some sIndex) (PT.put (some sSplit) (PT.put (some sCut) (PT.put (some sAtoi) Tryz.S15 23) 20) 22) 82) 26
noncomputable def Tryz.SP9 : Summ := PT.put (some (memos 10 [Tryz.M9])) Tryz.SP 9
theorem Tryz.spOk {Ω : Nat → Option Obj} (hC : CtxOk Tryz.prog Tryz.ctx) (L : Lays Tryz.prog Ω) : SummOk Tryz.prog Ω Tryz.ctx Tryz.SP := by
  have h0 : SummOk Tryz.prog Ω Tryz.ctx Tryz.S0 := (SummOk.leaf _ _ _).add fun args h ρ w cs s B _ => sItoa_ok (fun n w h0 h1 ht => Tryz.strconv_Itoa n h0 h1 w ht) cs s (L.tab w B.cell)
  have h1 := Tryz.sums hC h0
  have h2 := h1.add (f := 23) (k := sAtoi) fun args h ρ w cs s B _ => sAtoi_ok L cs s B
  have h3 := h2.add (f := 20) (k := sCut) fun args h ρ w cs s B _ => sCut_ok L cs s B
  have h4 := h3.add (f := 22) (k := sSplit) fun args h ρ w cs s B _ => sSplit_ok L cs s B
  have h5 := h4.add (f := 82) (k := sIndex) fun args h ρ w cs s B _ => sIndex_ok L cs s B
  exact h5.add (f := 26) (k := sJoin) fun args h ρ w cs s B _ => sJoin_ok cs s
theorem Tryz.sp9Ok {Ω : Nat → Option Obj} (hC : CtxOk Tryz.prog Tryz.ctx) (L : Lays Tryz.prog Ω) : SummOk Tryz.prog Ω Tryz.ctx Tryz.SP9 := by
  have h0 : SummOk Tryz.prog Ω Tryz.ctx Tryz.S0 := (SummOk.leaf _ _ _).add fun args h ρ w cs s B _ => sItoa_ok (fun n w h0 h1 ht => Tryz.strconv_Itoa n h0 h1 w ht) cs s (L.tab w B.cell)
  exact (Tryz.spOk hC L).put (ms := [Tryz.M9]) fun m hm => by
    simp only [List.mem_cons, List.not_mem_nil, or_false] at hm
    subst hm
    exact memoOk_of_chk hC (Tryz.sums hC h0) 1000000 Tryz.M9_chk
theorem Tryz.gets9 : Gets Tryz.SP9 := ⟨by kernel_rfl, by kernel_rfl, by kernel_rfl, by kernel_rfl, by kernel_rfl, by kernel_rfl, by kernel_rfl, by kernel_rfl, by kernel_rfl, by kernel_rfl, by kernel_rfl, by kernel_rfl, by kernel_rfl, by kernel_rfl, by kernel_rfl, by kernel_rfl, by kernel_rfl⟩
theorem Tryz.getsP9 : GetsP Tryz.SP9 := ⟨by kernel_rfl, by kernel_rfl, by kernel_rfl, by kernel_rfl⟩
end Go.Proofs
namespace Go.Proofs
open Go.Ev
set_option maxRecDepth 1000000
theorem Tryz.getsT : Gets Tryz.SP := ⟨by kernel_rfl, by kernel_rfl, by kernel_rfl, by kernel_rfl, by kernel_rfl, by kernel_rfl, by kernel_rfl, by kernel_rfl, by kernel_rfl, by kernel_rfl, by kernel_rfl, by kernel_rfl, by kernel_rfl, by kernel_rfl, by kernel_rfl, by kernel_rfl, by kernel_rfl⟩
theorem Tryz.getsPT : GetsP Tryz.SP := ⟨by kernel_rfl, by kernel_rfl, by kernel_rfl, by kernel_rfl⟩
theorem Tryz.getsQT : GetsQ Tryz.SP := ⟨by kernel_rfl, by kernel_rfl, by kernel_rfl, by kernel_rfl, by kernel_rfl⟩
theorem Tryz.c3all {h : AH} (low : ∀ b x, h.t.get b = some x → b < h.next) {k m : Int} {tv cv : AV} {t : List (List Int)} {R : Nat → AV} {l : List Int} (qt : TabT h tv t R) (qc : RowT h cv l) (m0 : -9223372036854775808 ≤ m) (m1 : m ≤ 9223372036854775807) :
    RunCall Tryz.ctx Tryz.SP 3 [.agg [.int .i64 k, .int .i64 m, tv, cv]] h ⟨.bool true, h⟩ :=
  Tryz.c3 (by kernel_rfl) (by kernel_rfl) (by kernel_rfl) (by kernel_rfl) (by kernel_rfl) Tryz.getsT Tryz.getsPT Tryz.getsQT (fun h => RunCall.summ (s := memos 10 [Tryz.Maw]) (by kernel_rfl) (Tryz.aw h)) low qt qc m0 m1
end Go.Proofs
