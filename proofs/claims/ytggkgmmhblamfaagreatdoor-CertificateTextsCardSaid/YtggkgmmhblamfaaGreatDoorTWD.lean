/- The library's contracts as summaries: Atoi, Cut, Split, Index, Join. -/
import Derived.Test.YtggkgmmhblamfaaGreatDoorTWC
import Derived.Test.YtggkgmmhblamfaaGreatDoorTLib
set_option linter.all false
namespace Go.Ev
open Go.RowKit Go.Proofs
/-- A world in which nothing that lay has changed, and a name for a new block of which nothing is said. -/
theorem Step.of_below1 {G : Nat} {ρ : Map} {h : AH} {w w' : World} (s : Sim G ρ h w) (b : Below w.heap.size w w') (L : Loc) : Step G ρ h w (ρ.upd h.next L) ⟨h.t, h.next + 1, h.mark, h.log⟩ w' := by
  have low := ρ.upd_low h.next L
  refine ⟨fun i hi => if_neg fun e => hi ⟨by omega, by show i < h.next + 1; omega⟩, Nat.le_succ _, ⟨fun c x hc => ?_, fun c d x y hx hy e => ?_, fun g hg => ?_, Nat.le_succ_of_le s.le, Nat.le_succ_of_le s.mark, fun c hc => ?_⟩, b.os, b.tape, b.output, b.size, fun B hB _ => b.block B hB,
    fun c x hc => .inl ⟨c, x, hc, id, by rw [low c (s.blk c x hc).1]⟩, rfl, fun _ h => h, fun _ h => .inl h, fun _ _ _ => rfl⟩
  · obtain ⟨h1, h2, h3⟩ := s.blk c x hc
    refine ⟨Nat.lt_succ_of_lt h1, h2.mono (blt_mono (Nat.le_succ _)), ?_⟩
    rw [low c h1]
    exact (h3.of_block (b.block _ h3.lt)).congr low h2
  · rw [low c (s.blk c x hx).1, low d (s.blk d y hy).1] at e
    exact s.inj c d x y hx hy e
  · rw [low g (Nat.lt_of_lt_of_le hg s.le)]
    exact s.glob g hg
  · rcases hc with hc | ⟨x, hc⟩
    · rw [low c (Nat.lt_of_lt_of_le hc s.le)]; exact s.spot c (.inl hc)
    · rw [low c (s.blk c x hc).1]; exact s.spot c (.inr ⟨x, hc⟩)
/-- An old cell of a block that stays. -/
theorem Base.cell {Ω : Nat → Option Obj} {ρ : Map} {h : AH} {w : World} (B : Base Ω ρ h w) : ∀ g o, Ω g = some o → w.heap[g]? = some o := fun g o hg => (B g o hg).1
/-- What the library asks of the worlds that hold Ω. -/
structure Lays (P : Program) (Ω : Nat → Option Obj) : Prop where
  max : ∀ w : World, (∀ g o, Ω g = some o → w.heap[g]? = some o) → ∃ m, w.cell? ⟨0, 0, none⟩ = some (.int .i64 m)
  syn : ∀ w : World, (∀ g o, Ω g = some o → w.heap[g]? = some o) → ∃ t p, w.cell? ⟨1, 0, none⟩ = some (.iface t p)
  rng : ∀ w : World, (∀ g o, Ω g = some o → w.heap[g]? = some o) → ∃ t p, w.cell? ⟨2, 0, none⟩ = some (.iface t p)
  tab : ∀ w : World, (∀ g o, Ω g = some o → w.heap[g]? = some o) → Lib.TabIs P w "internal/strconv.uint64pow10" .u64 Lib.pow10Tab
theorem below_bytes (w : World) (e : TypeId) (t : ByteArray) : Below w.heap.size w (Lib.bytesWorld w e t) := by
  unfold Lib.bytesWorld
  have h1 : Below w.heap.size w (w.drew.alloc (.cells (Lib.bytesCells w e t) e)) := (Below.refl _ _).drew.alloc (Nat.le_refl _) _
  refine h1.trans ?_
  unfold World.freeze
  split
  · exact Below.refl _ _
  · exact ⟨rfl, rfl, rfl, by simp, fun k hk => by
      show (Array.modify _ w.heap.size _)[k]? = _
      rw [Array.getElem?_modify, if_neg (by omega)]⟩
noncomputable def sAtoi (args : List AV) (h : AH) : Res V :=
  match args with
  | [.str s] => if s.length ≤ 1000000 then (match Lib.atoiAll s with
    | .ok v => .one ⟨.tup [.int .i64 v, .nili], h⟩
    | .syntax => .one ⟨.tup [.int .i64 0, .iface 140 (.ptr h.next 0)], ⟨h.t, h.next + 1, h.mark, h.log⟩⟩
    | .range => .one ⟨.tup [.int .i64 (Lib.atoiSat s), .iface 140 (.ptr h.next 0)], ⟨h.t, h.next + 1, h.mark, h.log⟩⟩) else .fail
  | _ => .fail
noncomputable def sCut (args : List AV) (h : AH) : Res V :=
  match args with
  | [.str s, .str p] => if s.length < 4294967281 then .one ⟨.tup [.str (Lib.cut s p).1, .str (Lib.cut s p).2.1, .bool (Lib.cut s p).2.2], h⟩ else .fail
  | _ => .fail
noncomputable def sIndex (args : List AV) (h : AH) : Res V :=
  match args with
  | [.str s, .str p] => if s.length < 4294967281 then .one ⟨.int .i64 (Lib.index s p), h⟩ else .fail
  | _ => .fail
noncomputable def splitL (s p : List UInt8) : List (List UInt8) := (Lib.splitB ⟨p.toArray⟩ 0 (Lib.countB ⟨s.toArray⟩ ⟨p.toArray⟩) ⟨s.toArray⟩).map (·.data.toList)
noncomputable def sSplit (args : List AV) (h : AH) : Res V :=
  match args with
  | [.str s, .str p] => if s.length < 4294967281 ∧ 1 ≤ p.length then .one ⟨.slice h.next 0 (splitL s p).length (splitL s p).length, h.add (.cells ((splitL s p).map .str) 0)⟩ else .fail
  | _ => .fail
theorem sAtoi_ok {Ω : Nat → Option Obj} (L : Lays Tryz.prog Ω) {args : List AV} {h : AH} {ρ : Map} {w : World} (cs : List Frame) (s : Sim 10 ρ h w) (B : Base Ω ρ h w) :
    (sAtoi args h).Ok (CallOut Tryz.prog 10 ρ h w 23 (concL ρ args).toArray cs) := by
  unfold sAtoi
  split
  · rename_i x
    split
    · rename_i hx
      have hsz : (⟨x.toArray⟩ : ByteArray).size ≤ 1000000 := by show x.toArray.size ≤ _; simpa using hx
      obtain ⟨t1, p1, h1⟩ := L.syn w B.cell
      obtain ⟨t2, p2, h2⟩ := L.rng w B.cell
      split
      · rename_i v hv
        refine out_of_calls (Tryz.strconv_Atoi_ok ⟨x.toArray⟩ (by omega) v (by simpa using hv) w) (fun e w' ⟨he, hw⟩ => ?_) cs
        have hb : Below w.heap.size w w' := by
          rcases hw with rfl | ⟨t, rfl⟩
          · exact Below.refl _ _
          · exact below_bytes w 5 t
        exact ⟨ρ, Step.of_below s hb, rfl, by rw [he]; rfl⟩
      · rename_i hv
        refine out_of_calls (Tryz.strconv_Atoi_syntax ⟨x.toArray⟩ (by omega) (by simpa using hv) _ w h1 (.inr ⟨t1, p1, rfl⟩)) (fun e w' ⟨N, he, _, _, hb⟩ => ?_) cs
        refine ⟨_, Step.of_below1 s hb ⟨N, 0, 0, none⟩, by simp [AV.all, allL, blt_iff], ?_⟩
        rw [he]
        simp [conc, concL, Map.upd_self, Loc.at]
      · rename_i hv
        refine out_of_calls (Tryz.strconv_Atoi_range ⟨x.toArray⟩ (by omega) (by simpa using hv) _ w h2 (.inr ⟨t2, p2, rfl⟩)) (fun e w' ⟨N, he, _, _, hb⟩ => ?_) cs
        refine ⟨_, Step.of_below1 s hb ⟨N, 0, 0, none⟩, by simp [AV.all, allL, blt_iff], ?_⟩
        rw [he]
        simp [conc, concL, Map.upd_self, Loc.at]
    · trivial
  · trivial
theorem sCut_ok {Ω : Nat → Option Obj} (L : Lays Tryz.prog Ω) {args : List AV} {h : AH} {ρ : Map} {w : World} (cs : List Frame) (s : Sim 10 ρ h w) (B : Base Ω ρ h w) :
    (sCut args h).Ok (CallOut Tryz.prog 10 ρ h w 20 (concL ρ args).toArray cs) := by
  unfold sCut
  split
  · rename_i x p
    split
    · rename_i hx
      have hsz : (⟨x.toArray⟩ : ByteArray).size < 4294967281 := by show x.toArray.size < _; simpa using hx
      obtain ⟨m, h1⟩ := L.max w B.cell
      refine out_of_calls (Tryz.strings_Cut ⟨x.toArray⟩ ⟨p.toArray⟩ m w hsz h1) (fun e w' ⟨he, n, hw⟩ => ?_) cs
      subst hw
      exact ⟨ρ, Step.of_below s (below_drewN w n), rfl, by rw [he]; rfl⟩
    · trivial
  · trivial
theorem sIndex_ok {Ω : Nat → Option Obj} (L : Lays Tryz.prog Ω) {args : List AV} {h : AH} {ρ : Map} {w : World} (cs : List Frame) (s : Sim 10 ρ h w) (B : Base Ω ρ h w) :
    (sIndex args h).Ok (CallOut Tryz.prog 10 ρ h w 82 (concL ρ args).toArray cs) := by
  unfold sIndex
  split
  · rename_i x p
    split
    · rename_i hx
      have hsz : (⟨x.toArray⟩ : ByteArray).size < 4294967281 := by show x.toArray.size < _; simpa using hx
      obtain ⟨m, h1⟩ := L.max w B.cell
      refine out_of_calls (Tryz.strings_Index ⟨x.toArray⟩ ⟨p.toArray⟩ m w hsz h1) (fun e w' ⟨he, hw⟩ => ?_) cs
      subst hw
      exact ⟨ρ, Step.of_below s (Below.refl _ _), rfl, by rw [he]; rfl⟩
    · trivial
  · trivial
theorem sSplit_ok {Ω : Nat → Option Obj} (L : Lays Tryz.prog Ω) {args : List AV} {h : AH} {ρ : Map} {w : World} (cs : List Frame) (s : Sim 10 ρ h w) (B : Base Ω ρ h w) :
    (sSplit args h).Ok (CallOut Tryz.prog 10 ρ h w 22 (concL ρ args).toArray cs) := by
  unfold sSplit
  split
  · rename_i x p
    split
    · rename_i hx
      have hsz : (⟨x.toArray⟩ : ByteArray).size < 4294967281 := by show x.toArray.size < _; simpa using hx.1
      have hpz : 1 ≤ (⟨p.toArray⟩ : ByteArray).size := by show 1 ≤ p.toArray.size; simpa using hx.2
      obtain ⟨m, h1⟩ := L.max w B.cell
      refine out_of_calls (Tryz.strings_Split ⟨x.toArray⟩ ⟨p.toArray⟩ m w hsz h1 hpz) (fun e w' ⟨he, hw⟩ => ?_) cs
      subst hw
      have hlen : (Lib.splitB ⟨p.toArray⟩ 0 (Lib.countB ⟨x.toArray⟩ ⟨p.toArray⟩) ⟨x.toArray⟩).length = Lib.countB ⟨x.toArray⟩ ⟨p.toArray⟩ + 1 := Lib.splitB_all _ hpz 0 _ _ rfl
      have hl2 : (splitL x p).length = Lib.countB ⟨x.toArray⟩ ⟨p.toArray⟩ + 1 := by unfold splitL; rw [List.length_map, hlen]
      refine ⟨_, Step.add (size := (splitL x p).length) s (o := .cells ((Lib.splitB ⟨p.toArray⟩ 0 (Lib.countB ⟨x.toArray⟩ ⟨p.toArray⟩) ⟨x.toArray⟩).map Value.string).toArray 9) ?_ ?_, ?_, ?_⟩
      · show allL _ ((splitL x p).map AV.str) = true
        rw [allL_iff]
        intro v hv
        obtain ⟨y, _, rfl⟩ := List.mem_map.1 hv
        rfl
      · refine ⟨_, 9, (0, 0), Array.getElem?_push_size, by simp [hlen, hl2], by simp, fun i v hv => ?_, fun i _ _ hc => by have := hc.2; simp at this, fun t ht => by omega⟩
        simp only [splitL, List.getElem?_map, Option.map_eq_some_iff] at hv
        obtain ⟨a, ⟨b, hb, rfl⟩, rfl⟩ := hv
        simp [hb, conc]
      · show Nat.blt h.next (h.next + 1) = true
        simp [blt_iff]
      · rw [he, hl2]
        simp [conc, Map.upd_self, Loc.at]
    · trivial
  · trivial
end Go.Ev
namespace Go.Ev
open Go.RowKit Go.Proofs
/-- A slice of strings: which. -/
def RowS (h : AH) (v : AV) (l : List (List UInt8)) : Prop :=
  (v = .nils ∧ l = []) ∨ ∃ b off cap c fz, ((v = .slice b off l.length cap ∧ l.length ≤ cap) ∨ v = .sliceU b off l.length 1) ∧ h.t.get b = some (.cells c fz) ∧ ∀ (i : Nat) x, l[i]? = some x → c[off + i]? = some (.str x)
theorem RowS.uniq {h : AH} {v : AV} {l m : List (List UInt8)} (p : RowS h v l) (q : RowS h v m) : l = m := by
  rcases p with ⟨rfl, rfl⟩ | ⟨b, off, cap, c, fz, hv, hb, hc⟩
  · rcases q with ⟨_, rfl⟩ | ⟨b, off, cap, c, fz, ⟨hv, _⟩ | hv, _⟩
    · rfl
    · cases hv
    · cases hv
  · rcases q with ⟨rfl, rfl⟩ | ⟨b', off', cap', c', fz', hv', hb', hc'⟩
    · rcases hv with ⟨hv, _⟩ | hv <;> cases hv
    · have key : b = b' ∧ off = off' ∧ l.length = m.length := by
        rcases hv with ⟨rfl, _⟩ | rfl <;> rcases hv' with ⟨hv', _⟩ | hv' <;> first | (injection hv' with e1 e2 e3; exact ⟨e1, e2, e3⟩) | (cases hv'; done)
      obtain ⟨rfl, rfl, hl⟩ := key
      rw [hb] at hb'
      cases hb'
      refine List.ext_getElem hl fun i h1 h2 => ?_
      have e1 := hc i _ (List.getElem?_eq_getElem h1)
      have e2 := hc' i _ (List.getElem?_eq_getElem h2)
      rw [e1] at e2
      injection e2 with e2
      injection e2
noncomputable def sJoin (args : List AV) (h : AH) : Res V :=
  match args with
  | [v, .str p] => open Classical in if hx : ∃ l, RowS h v l ∧ l.length ≤ 100000 ∧ (joinT p l).length ≤ 140737488355328 then .one ⟨.str (joinT p (Classical.choose hx)), h⟩ else .fail
  | _ => .fail
theorem sJoin_eq {h : AH} {v : AV} {l : List (List UInt8)} (r : RowS h v l) {p : List UInt8} (h1 : l.length ≤ 100000) (h2 : (joinT p l).length ≤ 140737488355328) : sJoin [v, .str p] h = .one ⟨.str (joinT p l), h⟩ := by
  have hx : ∃ l, RowS h v l ∧ l.length ≤ 100000 ∧ (joinT p l).length ≤ 140737488355328 := ⟨l, r, h1, h2⟩
  unfold sJoin
  show (open Classical in if hx : ∃ l, RowS h v l ∧ l.length ≤ 100000 ∧ (joinT p l).length ≤ 140737488355328 then Res.one (V.mk (.str (joinT p (Classical.choose hx))) h) else .fail) = _
  rw [dif_pos hx, (Classical.choose_spec hx).1.uniq r]
theorem join_joinT (l : List (List UInt8)) (p : List UInt8) : Lib.join l p = joinT p l := by
  cases l with
  | nil => rfl
  | cons x r => rw [Lib.join_cons]; rfl
theorem sJoin_ok {args : List AV} {h : AH} {ρ : Map} {w : World} (cs : List Frame) (s : Sim 10 ρ h w) :
    (sJoin args h).Ok (CallOut Tryz.prog 10 ρ h w 26 (concL ρ args).toArray cs) := by
  unfold sJoin
  split
  · rename_i v p
    split
    · rename_i hx
      obtain ⟨hr, h1, h2⟩ := Classical.choose_spec hx
      generalize Classical.choose hx = l at hr h1 h2
      have hmap : (l.map fun x : List UInt8 => (⟨x.toArray⟩ : ByteArray)).map (·.data.toList) = l := by
        rw [List.map_map]
        exact (List.map_congr_left fun x _ => by simp).trans (List.map_id l)
      rcases hr with ⟨rfl, rfl⟩ | ⟨b, off, cap, c, fz, hv, hb, hc⟩
      · refine out_of_calls (Tryz.strings_Join_none none 0 ⟨p.toArray⟩ w) (fun e w' ⟨he, hw⟩ => ?_) cs
        subst hw
        exact ⟨ρ, Step.of_below s (Below.refl _ _), rfl, by rw [he]; rfl⟩
      · obtain ⟨hlt, _, cs', ee, fr, g1, g2, g3, g4, _⟩ := s.blk b _ hb
        have key : ∀ c2 : Nat, l.length ≤ c2 → Calls Tryz.prog 26 #[.slice (some ((ρ b).at off)) l.length c2, .string ⟨p.toArray⟩] w fun e w' => e = .returned (.string ⟨(joinT p l).toArray⟩) ∧ Below w.heap.size w w' := by
          intro c2 hc2
          rw [Loc.at_none (s.spot b (.inr ⟨_, hb⟩))]
          have J := Tryz.strings_Join (ρ b).blk ((ρ b).shift + off) c2 (l.map fun x : List UInt8 => (⟨x.toArray⟩ : ByteArray)) ⟨p.toArray⟩ w (fun j x hx => ?_) ((Array.getElem?_eq_some_iff.1 g1).1) (by rw [List.length_map]; omega) (by rw [List.length_map]; exact hc2) (by rw [hmap, join_joinT]; exact h2)
          · rw [List.length_map, hmap, join_joinT] at J
            exact J
          · rw [List.getElem?_map, Option.map_eq_some_iff] at hx
            obtain ⟨y, hy, rfl⟩ := hx
            have := g4 _ _ (hc j y hy)
            unfold World.cell?
            rw [g1]
            show cs'[(ρ b).shift + off + j]? = _
            rw [Nat.add_assoc, this]
            rfl
        rcases hv with ⟨rfl, hcap⟩ | rfl
        · refine out_of_calls (key cap hcap) (fun e w' ⟨he, hw⟩ => ?_) cs
          exact ⟨ρ, Step.of_below s hw, rfl, by rw [he]; rfl⟩
        · refine out_of_calls (key (((ρ b).size - off) / 1) ?_) (fun e w' ⟨he, hw⟩ => ?_) cs
          · rw [Nat.div_one]
            rcases Nat.eq_zero_or_pos l.length with e | e
            · omega
            · have := hc (l.length - 1) _ (List.getElem?_eq_getElem (by omega))
              have := (List.getElem?_eq_some_iff.1 this).1
              omega
          · exact ⟨ρ, Step.of_below s hw, rfl, by rw [he]; rfl⟩
    · trivial
  · trivial
end Go.Ev
namespace Go.Proofs
open Go.Ev
set_option maxRecDepth 100000
theorem Tryz.fn148 : Tryz.ctx.fn.get 148 = some Tryz.f148 := by kernel_rfl
theorem Tryz.ex148 : Tryz.ctx.ext.get 148 = none := by kernel_rfl
/-- The iterator's three boxes. -/
noncomputable def box3 (h : AH) (s p : List UInt8) : AH := ((h.add (.cells [.str s] 0)).add (.cells [.str p] 0)).add (.cells [.int .i64 0] 0)
theorem Tryz.c79 {S : Summ} (hS : S.get 79 = none) {h : AH} {s p : List UInt8} :
    RunCall Tryz.ctx S 79 [.str s, .str p, .int .i64 0] h ⟨.fn 148 [.ptr (h.next + 1) 0, .ptr h.next 0, .ptr (h.next + 2) 0], ⟨(box3 h s p).t, h.next + 3, h.mark, h.log⟩⟩ := by
  refine WRun.callsN (mk := h.next) hS Tryz.fn79 rfl rfl ?_ ?_
  · simp [AV.all, allL, blt_iff]
  have g0 : (argsT [.str s, .str p, .int .i64 0] 0 .leaf).get 0 = some (.str s) := rfl
  have g1 : (argsT [.str s, .str p, .int .i64 0] 0 .leaf).get 1 = some (.str p) := rfl
  have g2 : (argsT [.str s, .str p, .int .i64 0] 0 .leaf).get 2 = some (.int .i64 0) := rfl
  generalize argsT [.str s, .str p, .int .i64 0] 0 .leaf = T at g0 g1 g2
  (first | refine WRun.seq (WRun.region ?_) | refine WRun.seq (WRun.seq (WRun.region ?_)) | refine WRun.region ?_ | refine WRun.seq (WRun.seq (WRun.seq (WRun.region ?_)))); ((repeat (first | refine WOps.a rfl (by simp only [reduceIte, Nat.reduceEqDiff, Nat.reduceAdd, Bm, By, g0, g1, g2] <;> rfl) ?_ | refine WOps.b rfl rfl rfl (by simp only [reduceIte, Nat.reduceEqDiff, Nat.reduceAdd, Bm, By, g0, g1, g2] <;> rfl) ?_)); refine WOps.nil ?_)
  refine WRun.seq (WRun.region ?_)
  refine WOps.vN (op_makeFunc3 (u := .ptr (h.next + 1) 0) (v := .ptr h.next 0) (w := .ptr (h.next + 2) 0) (by simp only [reduceIte, Nat.reduceEqDiff, Nat.reduceAdd, Bm, By, g0] <;> rfl) (by simp only [reduceIte, Nat.reduceEqDiff, Nat.reduceAdd, Bm, By, g0] <;> rfl) (by simp only [reduceIte, Nat.reduceEqDiff, Nat.reduceAdd, Bm, By, g0] <;> rfl)) rfl ?_
  ((repeat (first | refine WOps.a rfl (by simp only [reduceIte, Nat.reduceEqDiff, Nat.reduceAdd, Bm, By, g0] <;> rfl) ?_ | refine WOps.b rfl rfl rfl (by simp only [reduceIte, Nat.reduceEqDiff, Nat.reduceAdd, Bm, By, g0] <;> rfl) ?_)); refine WOps.nil ?_)
  exact WRun.ret (atEnd1 (r := 6) trivial rfl (by simp only [reduceIte, Nat.reduceEqDiff, Nat.reduceAdd, Bm, By, g0] <;> rfl))
theorem Tryz.c45 {S : Summ} (hS : S.get 45 = none) (hS79 : S.get 79 = none) {h : AH} {s p : List UInt8} :
    RunCall Tryz.ctx S 45 [.str s, .str p] h ⟨.fn 148 [.ptr (h.next + 1) 0, .ptr h.next 0, .ptr (h.next + 2) 0], ⟨(box3 h s p).t, h.next + 3, h.mark, h.log⟩⟩ := by
  refine WRun.callsN (mk := h.next) hS Tryz.fn45 rfl rfl ?_ ?_
  · simp [AV.all, allL, blt_iff]
  have g0 : (argsT [.str s, .str p] 0 .leaf).get 0 = some (.str s) := rfl
  have g1 : (argsT [.str s, .str p] 0 .leaf).get 1 = some (.str p) := rfl
  generalize argsT [.str s, .str p] 0 .leaf = T at g0 g1
  (first | refine WRun.seq (WRun.region ?_) | refine WRun.seq (WRun.seq (WRun.region ?_)) | refine WRun.region ?_ | refine WRun.seq (WRun.seq (WRun.seq (WRun.region ?_)))); ((repeat (first | refine WOps.a rfl (by simp only [reduceIte, Nat.reduceEqDiff, Nat.reduceAdd, Bm, By, g0, g1] <;> rfl) ?_ | refine WOps.b rfl rfl rfl (by simp only [reduceIte, Nat.reduceEqDiff, Nat.reduceAdd, Bm, By, g0, g1] <;> rfl) ?_)); refine WOps.nil ?_)
  refine WRun.seq (WRun.region ?_)
  iterate 2 (first | refine WOps.a rfl (by simp only [reduceIte, Nat.reduceEqDiff, Nat.reduceAdd, Bm, By, g0, g1] <;> rfl) ?_ | refine WOps.vG ((guard_bool rfl rfl (by simp only [reduceIte, Nat.reduceEqDiff, Nat.reduceAdd, Bm, By, g0, g1] <;> rfl)).trans rfl) (by simp only [reduceIte, Nat.reduceEqDiff, Nat.reduceAdd, Bm, By, g0, g1] <;> rfl) rfl ?_ | refine WOps.nG (by first | exact (guard_bool rfl rfl (by simp only [reduceIte, Nat.reduceEqDiff, Nat.reduceAdd, Bm, By, g0, g1] <;> rfl)).trans rfl | exact guard_not rfl rfl (by simp only [reduceIte, Nat.reduceEqDiff, Nat.reduceAdd, Bm, By, g0, g1] <;> rfl)) rfl ?_)
  refine WOps.cN (op_call3 (u := .str s) (v := .str p) (w := .int .i64 0) (by simp only [reduceIte, Nat.reduceEqDiff, Nat.reduceAdd, Bm, By, g0] <;> rfl) (by simp only [reduceIte, Nat.reduceEqDiff, Nat.reduceAdd, Bm, By, g1] <;> rfl) (by simp only [reduceIte, Nat.reduceEqDiff, Nat.reduceAdd, Bm, By, g0] <;> rfl) Tryz.fn79 Tryz.ex79) (Tryz.c79 hS79) rfl ?_
  ((repeat (first | refine WOps.a rfl (by simp only [reduceIte, Nat.reduceEqDiff, Nat.reduceAdd, Bm, By, g0] <;> rfl) ?_ | refine WOps.b rfl rfl rfl (by simp only [reduceIte, Nat.reduceEqDiff, Nat.reduceAdd, Bm, By, g0] <;> rfl) ?_)); refine WOps.nil ?_)
  exact WRun.ret (atEnd1 (r := 4) trivial rfl (by simp only [reduceIte, Nat.reduceEqDiff, Nat.reduceAdd, Bm, By, g0] <;> rfl))
theorem cIndex {S : Summ} (h82 : S.get 82 = some sIndex) {s p : List UInt8} (hs : s.length < 4294967281) (h : AH) : RunCall Tryz.ctx S 82 [.str s, .str p] h ⟨.int .i64 (Lib.index s p), h⟩ :=
  RunCall.summ h82 (by unfold sIndex; simp only [hs, if_true])
end Go.Proofs
namespace Go.Proofs
open Go.Ev
set_option maxRecDepth 100000
/-- Blocks of one's own behind those of h, whoever has written them. -/
structure Own (h h' : AH) : Prop where
  ext : Ext h h'
  low : ∀ b x, h.t.get b = some x → b < h.next
  lowN : ∀ b x, h'.t.get b = some x → b < h'.next
  next : h.next ≤ h'.next
  mark : h.next ≤ h'.mark
  log : ∀ b ∈ h'.log, h.next ≤ b
theorem Own.ofMine {h h' : AH} (o : Mine h h') : Own h h' := ⟨o.ext, o.low, o.lowN, o.next, by rw [o.mark]; exact Nat.le_refl _, by rw [o.log]; simp⟩
theorem Own.add {h h' : AH} (o : Own h h') (ab : ABlock) : Own h (h'.add ab) :=
  ⟨fun b x e => by
    have := o.low b x e
    have := o.next
    rw [get_add, if_neg (by omega)]
    exact o.ext b x e, o.low, fun b x e => by
    rw [get_add] at e
    rw [next_add]
    split at e
    · omega
    · have := o.lowN b x e; omega, by rw [next_add]; have := o.next; omega, by rw [mark_add]; exact o.mark, by rw [log_add]; exact o.log⟩
theorem logged_own {m b n : Nat} {l : List Nat} (hb : n ≤ b) (hl : ∀ c ∈ l, n ≤ c) : ∀ c ∈ logged m b l, n ≤ c := fun c hc => by
  rcases mem_logged.1 hc with h | ⟨rfl, _⟩
  · exact hl c h
  · exact hb
theorem Own.set {h h' : AH} (o : Own h h') {b : Nat} (hb : h.next ≤ b) (hb' : b < h'.next) (ab : ABlock) : Own h (h'.set b ab) :=
  ⟨fun c x e => by
    have := o.low c x e
    rw [get_set, if_neg (by omega)]
    exact o.ext c x e, o.low, fun c x e => by
    rw [get_set] at e
    rw [next_set]
    split at e
    · omega
    · exact o.lowN c x e, by rw [next_set]; exact o.next, by rw [mark_set]; exact o.mark, by rw [log_setE]; exact logged_own hb o.log⟩
theorem Own.del {h h' : AH} (o : Own h h') {b : Nat} (hb : h.next ≤ b) : Own h (h'.del b) :=
  ⟨fun c x e => by
    have := o.low c x e
    rw [get_del, if_neg (by omega)]
    exact o.ext c x e, o.low, fun c x e => by
    rw [get_del] at e
    rw [next_del]
    split at e
    · cases e
    · exact o.lowN c x e, by rw [next_del]; exact o.next, by rw [mark_del]; exact o.mark, by rw [log_del]; exact logged_own hb o.log⟩
theorem Own.enter {h h' : AH} (o : Own h h') : Own h ⟨h'.t, h'.next, h'.next, []⟩ := ⟨o.ext, o.low, o.lowN, o.next, o.next, by simp⟩
theorem mem_mergeLog {m b : Nat} {l : List Nat} : ∀ {lg : List Nat}, b ∈ mergeLog m l lg → b ∈ l ∨ b ∈ lg
  | [], h => .inl h
  | c :: lg, h => by
    rcases mem_logged.1 (show b ∈ logged m c (mergeLog m l lg) from h) with h | ⟨rfl, _⟩
    · rcases mem_mergeLog h with h | h
      · exact .inl h
      · exact .inr (List.mem_cons_of_mem _ h)
    · exact .inr List.mem_cons_self
theorem Own.back {h h0 H : AH} (o0 : Own h h0) (o : Own h H) : Own h ⟨H.t, H.next, h0.mark, mergeLog h0.mark h0.log H.log⟩ :=
  ⟨o.ext, o.low, o.lowN, o.next, o0.mark, fun b hb => (mem_mergeLog hb).elim (o0.log b) (o.log b)⟩
theorem logged_ne {m b : Nat} {l : List Nat} (hb : b < m) : logged m b l ≠ [] := by
  intro e
  have : b ∈ logged m b l := mem_logged.2 (.inr ⟨rfl, hb⟩)
  rw [e] at this
  simp at this
/-- A slice that has been appended to. -/
def VecI (lo : Nat) (H : AH) (v : AV) (l : List AV) : Prop :=
  (v = .nils ∧ l = []) ∨ ∃ b fz, v = .sliceU b 0 l.length 1 ∧ lo ≤ b ∧ H.t.get b = some (.cells l fz) ∧ fz / 65536 ≤ l.length ∧ l ≠ []
theorem VecI.keep {lo : Nat} {H H' : AH} {v : AV} {l : List AV} (r : VecI lo H v l) (hk : ∀ b n, v = .sliceU b 0 n 1 → H'.t.get b = H.t.get b) : VecI lo H' v l := by
  rcases r with r | ⟨b, fz, h1, h2, h3, h4, h5⟩
  · exact .inl r
  · exact .inr ⟨b, fz, h1, h2, by rw [hk b _ h1]; exact h3, h4, h5⟩
theorem VecI.mono {lo lo' : Nat} {H : AH} {v : AV} {l : List AV} (r : VecI lo H v l) (h : lo' ≤ lo) : VecI lo' H v l := by
  rcases r with r | ⟨b, fz, h1, h2, h3, h4, h5⟩
  · exact .inl r
  · exact .inr ⟨b, fz, h1, by omega, h3, h4, h5⟩
theorem VecI.row {lo : Nat} {H : AH} {v : AV} {l : List AV} (r : VecI lo H v l) : RowAt H v l := by
  rcases r with r | ⟨b, fz, h1, h2, h3, h4, h5⟩
  · exact .inl r
  · exact .inr ⟨b, 0, 0, l, fz, .inr h1, h3, fun i x hx => by rw [Nat.zero_add]; exact hx⟩
theorem elems_lit {H : AH} {b fz : Nat} {v : AV} (hb : H.t.get b = some (.cells [v] fz)) : elems H 1 1 (.slice b 0 1 1) = some [v] := by
  show (match known H b with | some (c, _) => Go.Ev.sub c 0 (Nat.mul 1 1) | none => none) = _
  have : known H b = some ([v], fz) := by unfold known; rw [hb]
  rw [this]
  rfl
theorem allOne1 {x : AV} (h : x.one = true) : allOne [x] = true := by
  show cnd x.one true false = true
  rw [h]; rfl
theorem VecI.app {a ae : ATy} {ty : PT ATy} {e : Nat} (W : Word a ae ty e) {lo : Nat} {h H : AH} {v : AV} {l : List AV} (r : VecI lo H v l) (hO : Own h H) (hlo : h.next ≤ lo) (hn : lo ≤ H.next) {x : AV} (hx : x.one = true) (hbig : l.length + 1 ≤ 16777216) (he : fzNew e / 65536 = 0) :
    ∃ b' H', evAppend ty a v (.slice H.next 0 1 1) (H.add (.cells [x] 0)) = .val (.sliceU b' 0 (l.length + 1) 1) H' ∧ VecI lo H' (.sliceU b' 0 (l.length + 1) 1) (l ++ [x]) ∧ Own h H' ∧ H'.mark = H.mark ∧ (H.mark = h.next → H'.log = H.log) ∧ H.next ≤ b' ∧ b' < H'.next ∧
      ∀ c, c < H.next → (∀ n, v ≠ .sliceU c 0 n 1) → H'.t.get c = H.t.get c := by
  have hlit : (H.add (.cells [x] 0)).t.get H.next = some (.cells [x] 0) := get_add_self
  rcases r with ⟨rfl, rfl⟩ | ⟨b, fz, rfl, h2, h3, h4, h5⟩
  · refine ⟨_, _, append_nils W (k := 1) (xs := [x]) rfl (elems_lit hlit) rfl (by decide) (by decide), .inr ⟨_, _, rfl, by rw [next_add]; omega, get_add_self, by rw [he]; exact Nat.zero_le _, by simp⟩, (hO.add _).add _, rfl, fun _ => rfl, by rw [next_add]; omega, by rw [next_add (h := H.add _)]; omega, fun c hc _ => ?_⟩
    rw [get_add, if_neg (by rw [next_add]; omega), get_add, if_neg (by omega)]
  · have hbl := hO.lowN _ _ h3
    have hb' : (H.add (.cells [x] 0)).t.get b = some (.cells l fz) := by rw [get_add, if_neg (by omega)]; exact h3
    refine ⟨_, _, append_open W (k := 1) (xs := [x]) rfl (elems_lit hlit) rfl (by decide) hbig hb' rfl h4 (allOne1 hx), .inr ⟨_, _, by rw [List.length_append]; rfl, ?_, get_add_self, ?_, by simp⟩, ((hO.add _).del (by omega)).add _, rfl, fun hm => ?_, ?_, ?_, fun c hc hne => ?_⟩
    · rw [next_del, next_add]; omega
    · rw [fzMove_div, List.length_append]; omega
    · show logged H.mark b H.log = H.log
      unfold logged
      cases q : Nat.blt b H.mark with
      | true => have := blt_iff.1 q; omega
      | false => rfl
    · show H.next ≤ H.next + 1; omega
    · show H.next + 1 < H.next + 1 + 1; omega
    · have hcb : c ≠ b := fun e => hne _ (by rw [e])
      rw [get_add, if_neg (by rw [next_del, next_add]; omega), get_del, if_neg hcb, get_add, if_neg (by omega)]
theorem store_cells1 {a : ATy} {h : AH} {b off fz : Nat} {v x : AV} {c : List AV} (h1 : a.size = 1) (hv : v.cells = [x]) (ho : x.one = true) (hb : h.t.get b = some (.cells c fz)) (hf : fz / 65536 ≤ off) (hlt : off < c.length) :
    evStore a (.ptr b off) v h = .skip (h.set b (.cells (c.set off x) fz)) := by
  unfold evStore
  show cnd (Nat.beq (len v.cells) a.size) (R.ofSkip (writeCells h b off v.cells)) .fail = _
  rw [hv, h1]
  show R.ofSkip (writeCells h b off [x]) = _
  have : writeCells h b off [x] = some (h.set b (.cells (c.set off x) fz)) := by
    unfold writeCells cellsAt
    rw [hb]
    show cnd (Nat.ble (Nat.div fz 65536) off && allOne [x]) (oe none (splice [x] off c) fun c' => some (h.set b (.cells c' fz))) none = _
    have h1 : Nat.ble (Nat.div fz 65536) off = true := ble_iff.2 hf
    rw [h1, allOne1 ho]
    show oe none (splice [x] off c) _ = _
    rw [splice_one off c hlt]
    rfl
  rw [this]
  rfl
theorem box3_eq (h : AH) (s p : List UInt8) : (⟨(box3 h s p).t, h.next + 3, h.mark, h.log⟩ : AH) = box3 h s p := rfl
end Go.Proofs
