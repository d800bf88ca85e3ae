/- The evaluator, part L: make, slices of slices, append, copy. -/
import Derived.Test.YtggkgmmhblamfaaGreatDoorTEvG
import Derived.Laws.World
set_option linter.all false
namespace Go.Ev
section
variable {P : Program} {G : Nat} {ρ : Map} {h : AH} {w : World} {t : TypeId} {ty : PT ATy} (hT : ∀ t a, ty.get t = some a → TyIs P t a)

theorem wrap_nat {n : Nat} (h : n < 9223372036854775808) : IntKind.i64.wrap (n : Int) = n := wrap_i64 _ (by omega) (by omega)

include hT
theorem evMakeSlice_ok (s : Sim G ρ h w) {a : ATy} (ht : TyIs P t a) (l c : AV) : VOk P G ρ h w (Instr.makeSlice t (conc ρ l) (conc ρ c)) (evMakeSlice ty a l c h) := by
  unfold evMakeSlice
  split
  · rename_i e k n j m hd
    split
    · rename_i ae hae
      rw [cnd_eq]
      split
      · rename_i hc
        simp only [Bool.and_eq_true, ble_iff, blt_iff] at hc
        obtain ⟨⟨⟨⟨c1, c2⟩, c5⟩, c3⟩, c4⟩ := hc
        have c3 := Nat.eq_of_beq_eq_true c3
        rw [len_eq] at c3
        rw [forceL_eq, forceN_eq]
        have he := hT _ _ hae
        obtain ⟨z, hz1, hz2, _⟩ := he.run_zero w
        obtain ⟨i, hi, hs, hb, _⟩ := he.run_typeInfo w
        have hlo : loL h.next (times ae.zero m) = true := times_all (he.zero _) m
        refine ⟨_, _, ?_, Step.cells s hlo e (fun t ht => by simp at ht), lo_new⟩
        have hzr := zeros_eq ρ (z := ae.zero) (zero := z.cells) (hz2 ρ) m (by omega)
        rw [c3] at hzr
        have w1 : IntKind.i64.wrap (n : Int) = n := wrap_nat (by omega)
        have w2 : IntKind.i64.wrap (m : Int) = m := wrap_nat (by omega)
        have hbm : ae.bytes * m ≤ 1048576 * 1048576 := Nat.mul_le_mul c5 c2
        have hbig : ¬ ((i.bytes : Int) * (m : Int) > 2 ^ 48) := by
          rw [hb]
          have : ((ae.bytes * m : Nat) : Int) ≤ ((1048576 * 1048576 : Nat) : Int) := Int.ofNat_le.2 hbm
          rw [Int.natCast_mul] at this
          omega
        have hneg : ¬ ((m : Int) < 0) := by omega
        have hneg2 : ¬ ((n : Int) < 0) := by omega
        have hle : ¬ ((n : Int) > (m : Int)) := by omega
        have hfin : ∀ (cs : Array Value), cs = (Ev.concL ρ (times ae.zero m)).toArray → ((do let x ← newRow e cs; pure (Value.slice (some x) (n : Int).toNat (m : Int).toNat) : Sem Value)).run P w =
            .ok (Ev.conc (ρ.upd h.next ⟨w.heap.size, 0, (times ae.zero m).length, none⟩) (.slice h.next 0 n m)) { w with heap := w.heap.push (.cells (Ev.concL ρ (times ae.zero m)).toArray e (0, 0)) } := by
          intro cs hcs
          subst hcs
          simp [newRow, Ev.conc, Map.upd_self, Loc.at]
        have e1 : Ev.conc ρ (.int k (Int.ofNat n)) = .int k n := rfl
        have e2 : Ev.conc ρ (.int j (Int.ofNat m)) = .int j m := rfl
        rw [e1, e2]
        simp only [Instr.makeSlice, Sem.run_bind, ht.slice w hd, Result.andThen_ok, asInt, asIntOf, Sem.run_pure, hi, w1, w2, hbig, hneg, hneg2, hle, decide_false, Bool.or_self, Bool.false_or, Bool.or_false, or_self, if_false, Bool.false_eq_true,
          run_askRoom, he.run_sizeOf]
        by_cases h0 : (m : Int).toNat * ae.size = 0
        · have hm : m = 0 := by
            rcases Nat.mul_eq_zero.1 h0 with h | h
            · simpa using h
            · omega
          subst hm
          rw [if_pos h0]
          simp only [Sem.run_bind, Sem.run_pure, Result.andThen_ok, h0]
          refine hfin _ ?_
          simp [times, Ev.concL]
        · rw [if_neg h0]
          simp only [Sem.run_bind, Sem.run_pure, Result.andThen_ok, hz1]
          refine hfin _ ?_
          rw [show (m : Int).toNat = m from Int.toNat_natCast m]
          exact hzr
      · trivial
    · trivial
  · trivial

/-! ### Slices -/
omit hT in
theorem natOf_some {v : AV} {n : Nat} (hn : natOf v = some n) : ∃ k, v = .int k (Int.ofNat n) := by
  unfold natOf at hn
  split at hn
  · cases hn; exact ⟨_, rfl⟩
  · cases hn
omit hT in
theorem run_sliceBound {v : AV} {n y : Nat} (code : BoundsCode) (hn : natOf v = some n) (hy : n ≤ y) : (Instr.sliceBound (conc ρ v) y code).run P w = .ok n w := by
  obtain ⟨k, rfl⟩ := natOf_some hn
  have h1 : (0 : Int) ≤ Int.ofNat n ∧ Int.ofNat n ≤ (y : Int) := ⟨Int.natCast_nonneg n, Int.ofNat_le.2 hy⟩
  simp [Instr.sliceBound, conc, asIntOf, h1]
  intro hc
  exact absurd hc (by omega)
omit hT in
theorem run_bounds {isSlice : Bool} {len cap l hh m : Nat} {lo hi mx : Option AV} (h1 : bound 0 lo = some l) (h2 : bound cap mx = some m) (h3 : bound len hi = some hh) (c1 : l ≤ hh) (c2 : hh ≤ m) (c3 : m ≤ cap)
    (c4 : (mx.isNone || hi.isSome) = true) : (Instr.sliceBounds isSlice len cap (lo.map (conc ρ)) (hi.map (conc ρ)) (mx.map (conc ρ))).run P w = .ok (l, hh, m) w := by
  have b1 : ∀ v, lo = some v → ∀ code, (Instr.sliceBound (conc ρ v) hh code).run P w = .ok l w := fun v e code => by subst e; exact run_sliceBound code h1 c1
  have b2 : ∀ v, mx = some v → ∀ code, (Instr.sliceBound (conc ρ v) cap code).run P w = .ok m w := fun v e code => by subst e; exact run_sliceBound code h2 c3
  have b3 : ∀ v, hi = some v → ∀ code, (Instr.sliceBound (conc ρ v) m code).run P w = .ok hh w := fun v e code => by subst e; exact run_sliceBound code h3 c2
  unfold Instr.sliceBounds
  cases mx with
  | none =>
    cases h2
    cases hi with
    | none =>
      cases h3
      cases lo with
      | none => cases h1; rfl
      | some u => simp [b1 u rfl]
    | some v =>
      cases lo with
      | none => cases h1; simp [b3 v rfl]
      | some u => simp [b1 u rfl, b3 v rfl]
  | some x =>
    cases hi with
    | none => cases c4
    | some v =>
      cases lo with
      | none => cases h1; simp [b2 x rfl, b3 v rfl]
      | some u => simp [b1 u rfl, b2 x rfl, b3 v rfl]

omit hT in
theorem pick_at (L : Loc) (m l off es : Nat) : L.at (pickOff m l off es) = if m = l then L.at off else (L.at off).add (l * es) := by
  unfold pickOff
  rw [cnd_eq, beq_nat]
  by_cases e : m = l
  · rw [if_pos e, decide_eq_true e, if_pos rfl]
  · rw [if_neg e, decide_eq_false e, if_neg (by simp), Loc.at_add]; rfl
omit hT in
theorem sliceRow_some {b off n c es : Nat} {lo hi mx : Option AV} {v : AV} (hv : sliceRow b off n c es lo hi mx = some v) :
    ∃ l hh m, bound 0 lo = some l ∧ bound c mx = some m ∧ bound n hi = some hh ∧ l ≤ hh ∧ hh ≤ m ∧ m ≤ c ∧ (mx.isNone || hi.isSome) = true ∧ v = .slice b (pickOff m l off es) (hh - l) (m - l) := by
  unfold sliceRow at hv
  split at hv
  · rename_i l hl
    split at hv
    · rename_i m hm
      split at hv
      · rename_i hh hh'
        rw [cnd_eq] at hv
        split at hv
        · rename_i hc
          simp only [Bool.and_eq_true, ble_iff] at hc
          simp only [forceN_eq] at hv
          cases hv
          exact ⟨l, hh, m, hl, hm, hh', hc.1.1.1, hc.1.1.2, hc.1.2, hc.2, rfl⟩
        · cases hv
      · cases hv
    · cases hv
  · cases hv
omit hT in
theorem conc_sliceRow {b off hh m l es : Nat} : conc ρ (.slice b (pickOff m l off es) (hh - l) (m - l)) = .slice (some (if m = l then (ρ b).at off else ((ρ b).at off).add (l * es))) (hh - l) (m - l) := by
  simp only [conc, pick_at]

omit hT in
theorem sliceStr_some {s : List UInt8} {lo hi : Option AV} {v : AV} (hv : sliceStr s lo hi = some v) :
    ∃ l hh, bound 0 lo = some l ∧ bound s.length hi = some hh ∧ l ≤ hh ∧ hh ≤ s.length ∧ v = .str ((s.drop l).take (hh - l)) := by
  unfold sliceStr at hv
  split at hv
  · rename_i l hl
    split at hv
    · rename_i hh hh'
      rw [cnd_eq] at hv
      rw [len_eq] at hh' hv
      split at hv
      · rename_i hc
        simp only [Bool.and_eq_true, ble_iff] at hc
        split at hv
        · rename_i r hr
          cases hv
          refine ⟨l, hh, hl, hh', hc.1, hc.2, ?_⟩
          unfold Ev.sub at hr
          rw [dropN_eq] at hr
          rw [(takeN_sound _ _ _ hr).1]
          rfl
        · cases hv
      · cases hv
    · cases hv
  · cases hv

omit hT in
theorem known_some {b : Nat} {c : List AV} {fz : Nat} (hk : known h b = some (c, fz)) : h.t.get b = some (.cells c fz) := by
  unfold known at hk
  split at hk
  · rename_i c' fz' e; cases hk; exact e
  · cases hk

omit hT in
theorem sliceOpen_ok (s : Sim G ρ h w) {a ae : ATy} {e : Nat} (ht : TyIs P t a) (hd : a.d = .slice e) (he : TyIs P e ae) {b off n fz : Nat} {c : List AV} (hk : h.t.get b = some (.cells c fz)) (hx : (AV.sliceU b off n ae.size).lo h.next = true) (lo hi : Option AV) :
    VOk P G ρ h w (Instr.sliceAt t (conc ρ (.sliceU b off n ae.size)) (lo.map (conc ρ)) (hi.map (conc ρ)) ((none : Option AV).map (conc ρ))) (sliceOpen (len c) b off n ae.size lo hi h) := by
  unfold sliceOpen
  split
  · rename_i l hl
    split
    · rename_i hh hh'
      rw [cnd_eq]
      split
      · rename_i hc
        simp only [Bool.and_eq_true, ble_iff, blt_iff, len_eq] at hc
        obtain ⟨⟨c1, c2⟩, c3⟩ := hc
        obtain ⟨_, _, cs, e', fr, g1, g2, g3, _⟩ := s.blk b _ hk
        have c2 : off + hh * ae.size ≤ c.length := c2
        have hcap : hh ≤ ((ρ b).size - off) / ae.size := by
          rw [Nat.le_div_iff_mul_le c3]; omega
        have hb := run_bounds (P := P) (ρ := ρ) (w := w) (isSlice := true) (mx := none) (cap := ((ρ b).size - off) / ae.size) (m := ((ρ b).size - off) / ae.size) hl rfl hh' c1 hcap (Nat.le_refl _) rfl
        simp only [Option.map_none] at hb
        have hrun : (Instr.sliceAt t (conc ρ (.sliceU b off n ae.size)) (lo.map (conc ρ)) (hi.map (conc ρ)) none).run P w =
            .ok (.slice (if ((ρ b).size - off) / ae.size = l then some ((ρ b).at off) else some ((ρ b).at (off + l * ae.size))) (hh - l) (((ρ b).size - off) / ae.size - l)) w := by
          simp only [Instr.sliceAt, Instr.slice, Sem.run_bind, ht.slice w hd, Result.andThen_ok, conc, hb, he.run_sizeOf, Sem.run_pure, Option.map_some, Loc.at_add]
        have hdiv : ((ρ b).size - (off + l * ae.size)) / ae.size = ((ρ b).size - off) / ae.size - l := by
          rw [← Nat.sub_sub, Nat.mul_comm, Nat.sub_mul_div]
        rw [cnd_eq]
        split
        · rename_i hc
          simp only [forceN_eq]
          refine ⟨ρ, w, ?_, .refl s, hx⟩
          refine hrun.trans ?_
          simp only [conc]
          have e1 : Nat.add off (Nat.mul l ae.size) = off + l * ae.size := rfl
          have e2 : Nat.sub hh l = hh - l := rfl
          rw [e1, e2, hdiv]
          by_cases hm : ((ρ b).size - off) / ae.size = l
          · rw [if_pos hm]
            have hl0 : l = 0 := by
              rcases Bool.or_eq_true_iff.1 hc with h | h
              · have := blt_iff.1 h; omega
              · exact Nat.eq_of_beq_eq_true h
            subst hl0
            simp
          · rw [if_neg hm]
        · rename_i hc
          have hle : hh = l := by
            have : ¬ l < hh := fun h => hc (Bool.or_eq_true_iff.2 (.inl (blt_iff.2 h)))
            omega
          subst hle
          by_cases hm : ((ρ b).size - off) / ae.size = hh
          · refine ⟨_, List.mem_cons_self, ρ, w, ?_, .refl s, hx⟩
            refine hrun.trans ?_
            rw [if_pos hm, hm]
            simp [conc]
          · refine ⟨_, List.mem_cons_of_mem _ List.mem_cons_self, ρ, w, ?_, .refl s, hx⟩
            refine hrun.trans ?_
            simp only [conc]
            have e1 : Nat.add off (Nat.mul hh ae.size) = off + hh * ae.size := rfl
            rw [e1, hdiv, if_neg hm, Nat.sub_self]
      · trivial
    · trivial
  · trivial
theorem evSlice_ok (s : Sim G ρ h w) {a : ATy} (ht : TyIs P t a) {x : AV} (hx : x.lo h.next = true) (lo hi mx : Option AV) :
    VOk P G ρ h w (Instr.sliceAt t (conc ρ x) (lo.map (conc ρ)) (hi.map (conc ρ)) (mx.map (conc ρ))) (evSlice ty a x lo hi mx h) := by
  unfold evSlice
  split
  · rename_i hd
    split
    · rename_i str
      refine VOk.pure s fun v hv => ?_
      obtain ⟨l, hh, h1, h2, c1, c2, rfl⟩ := sliceStr_some hv
      have hsz : (⟨str.toArray⟩ : ByteArray).size = str.length := rfl
      have hb := run_bounds (P := P) (ρ := ρ) (w := w) (isSlice := false) (len := (⟨str.toArray⟩ : ByteArray).size) (cap := (⟨str.toArray⟩ : ByteArray).size) (mx := none) (m := (⟨str.toArray⟩ : ByteArray).size) h1 rfl (by rw [hsz]; exact h2) c1 (by rw [hsz]; exact c2) (Nat.le_refl _) rfl
      refine ⟨?_, rfl⟩
      simp only [Option.map_none] at hb
      simp only [Instr.sliceAt, Instr.slice, Sem.run_bind, ht.str w hd, Result.andThen_ok, conc, Option.map_none, Option.isSome_none, Bool.false_eq_true, if_false, hb, Sem.run_pure]
      congr 2
      apply ByteArray.ext
      apply Array.ext'
      simp [List.take_drop]
    · trivial
  · rename_i e hd
    split
    · rename_i ae hae
      have he := hT _ _ hae
      split
      · rename_i b off n c
        refine VOk.pure s fun v hv => ?_
        obtain ⟨l, hh, m, h1, h2, h3, c1, c2, c3, c4, rfl⟩ := sliceRow_some hv
        have hb := run_bounds (P := P) (ρ := ρ) (w := w) (isSlice := true) h1 h2 h3 c1 c2 c3 c4
        refine ⟨?_, hx⟩
        rw [conc_sliceRow]
        simp only [Instr.sliceAt, Instr.slice, Sem.run_bind, ht.slice w hd, Result.andThen_ok, conc, hb, he.run_sizeOf, Sem.run_pure, Option.map_some]
        congr 2
        split <;> rfl
      · rename_i b off n es
        rw [cnd_eq]
        split
        · rename_i hes
          have hes := Nat.eq_of_beq_eq_true hes
          subst hes
          split
          · rename_i c fz hk
            have hk := known_some hk
            exact sliceOpen_ok s ht hd he hk hx lo hi
          · trivial
        · trivial
      · split
        · rename_i h1 h2
          refine ⟨ρ, w, ?_, .refl s, rfl⟩
          have hb := run_bounds (P := P) (ρ := ρ) (w := w) (isSlice := true) (len := 0) (cap := 0) (mx := none) (m := 0) h1 rfl h2 (Nat.le_refl _) (Nat.le_refl _) (Nat.le_refl _) rfl
          simp only [Option.map_none] at hb
          simp [Instr.sliceAt, Instr.slice, ht.slice w hd, conc, hb, he.run_sizeOf]
        · trivial
      · trivial
    · trivial
  · rename_i n e hd
    split
    · rename_i ae hae
      have he := hT _ _ hae
      split
      · rename_i b off
        refine VOk.pure s fun v hv => ?_
        obtain ⟨l, hh, m, h1, h2, h3, c1, c2, c3, c4, rfl⟩ := sliceRow_some hv
        have hb := run_bounds (P := P) (ρ := ρ) (w := w) (isSlice := false) h1 h2 h3 c1 c2 c3 c4
        refine ⟨?_, hx⟩
        rw [conc_sliceRow]
        simp only [Instr.sliceAt, Instr.sureAddr, Sem.run_bind, ht.array w hd, Result.andThen_ok, conc, hb, he.run_sizeOf, Sem.run_pure]
      · trivial
    · trivial
  · rename_i arr hd
    split
    · rename_i aa haa
      split
      · rename_i n e hd2
        split
        · rename_i ae hae
          have he := hT _ _ hae
          split
          · rename_i b off
            refine VOk.pure s fun v hv => ?_
            obtain ⟨l, hh, m, h1, h2, h3, c1, c2, c3, c4, rfl⟩ := sliceRow_some hv
            have hb := run_bounds (P := P) (ρ := ρ) (w := w) (isSlice := false) h1 h2 h3 c1 c2 c3 c4
            refine ⟨?_, hx⟩
            rw [conc_sliceRow]
            simp only [Instr.sliceAt, Instr.slice, asAddr, Sem.run_bind, ht.ptr w hd, (hT _ _ haa).array w hd2, Result.andThen_ok, conc, hb, he.run_sizeOf, Sem.run_pure]
          · trivial
        · trivial
      · trivial
    · trivial
  · trivial
end
end Go.Ev
namespace Go.Ev
section
variable {P : Program} {G : Nat} {ρ : Map} {h : AH} {w : World} {t : TypeId} {ty : PT ATy} (hT : ∀ t a, ty.get t = some a → TyIs P t a)

theorem firstCells_ok (s : Sim G ρ h w) {es n : Nat} {x : AV} {l : List AV} (hx : elems h es n x = some l) (hl : l.length = n * es) :
    (Builtin.firstCells es n (conc ρ x)).run P w = .ok (concL ρ l).toArray w ∧ loL h.next l = true := by
  unfold elems at hx
  split at hx
  · split at hx
    · rename_i c fz hk
      obtain ⟨h1, h2⟩ := s.loadCells (P := P) (known_some hk) hx
      exact ⟨h1, h2⟩
    · cases hx
  · split at hx
    · rename_i c fz hk
      obtain ⟨h1, h2⟩ := s.loadCells (P := P) (known_some hk) hx
      exact ⟨h1, h2⟩
    · cases hx
  · rw [cnd_eq] at hx
    split at hx
    · cases hx; exact ⟨rfl, rfl⟩
    · cases hx
  · rename_i str
    split at hx
    · rename_i r hr
      cases hx
      refine ⟨?_, allL_iff.2 fun v hv => by obtain ⟨c, _, rfl⟩ := List.mem_map.1 hv; rfl⟩
      obtain ⟨h1, h2, h3⟩ := takeN_sound _ _ _ hr
      have e : ((⟨str.toArray⟩ : ByteArray).extract 0 n).data.toList = r := by
        rw [h1]; simp [ByteArray.data_extract, Nat.min_eq_left h3]
      simp only [Builtin.firstCells, conc, Sem.run_pure]
      congr 1
      apply Array.ext'
      rw [Array.toList_map, e, concL_eq, List.map_map]
      rfl
    · cases hx
  · cases hx
theorem lenOf_ok {x : AV} {n : Nat} (hx : lenOf x = some n) : (Builtin.lenOf (conc ρ x)).run P w = .ok n w := by
  unfold lenOf at hx
  split at hx <;> cases hx
  · rfl
  · rfl
  · rfl
  · rw [len_eq]; rfl

theorem zeroCells_size (z : Array Value) (n : Nat) : (Builtin.zeroCells z n).size = n * z.size := by simp [Builtin.zeroCells]
theorem growBy_le (newLen : Nat) : ∀ r c, 256 ≤ c → Builtin.growBy newLen r c ≤ 2 ^ r * c
  | 0, c, _ => by simp [Builtin.growBy]
  | r + 1, c, hc => by
    unfold Builtin.growBy
    split
    · calc c = 1 * c := (Nat.one_mul c).symm
        _ ≤ 2 ^ (r + 1) * c := Nat.mul_le_mul_right c (Nat.one_le_two_pow)
    · have h1 : c + (c + 768) / 4 ≤ 2 * c := by omega
      refine Nat.le_trans (growBy_le newLen r _ (by omega)) ?_
      calc 2 ^ r * (c + (c + 768) / 4) ≤ 2 ^ r * (2 * c) := Nat.mul_le_mul_left _ h1
        _ = 2 ^ (r + 1) * c := by rw [Nat.pow_succ]; rw [Nat.mul_assoc]
theorem nextcap_le {n c : Nat} (hn : n ≤ 16777216) (hc : c ≤ 16777216) : Builtin.nextslicecap n c ≤ 268435456 := by
  unfold Builtin.nextslicecap
  split
  · omega
  · split
    · omega
    · have := growBy_le n 4 c (by omega)
      omega

def SeqTy (P : Program) (t : TypeId) : Prop := (∃ e, ∀ w, (underlying t).run P w = .ok (.slice e) w) ∨ ∀ w, (underlying t).run P w = .ok .string w

/-- An append that makes a new row. -/
theorem append_grow (s : Sim G ρ h w) {a ae : ATy} {e t2 ty2 : TypeId} (ht : TyIs P t a) (hd : a.d = .slice e) (he : TyIs P e ae) (h2 : SeqTy P t2)
    (c1 : 0 < ae.size) (c2 : 0 < ae.bytes) (c3 : ae.bytes ≤ 1024) (c4 : ae.zero.length = ae.size)
    {base : Option Addr} {n cap k : Nat} {x : AV} {old xs : List AV} (hold : ∀ w', w'.heap = w.heap → (Builtin.firstCells ae.size n (.slice base n cap)).run P w' = .ok (concL ρ old).toArray w') (hlo : old.length = n * ae.size)
    (hk : lenOf x = some k) (hx : elems h ae.size k x = some xs) (hxl : xs.length = k * ae.size) (hgrow : cap < n + k) (hn : n + k ≤ 16777216) (hcap : cap ≤ 16777216) :
    ∃ (newCap : Nat) (cs : Array Value), n + k ≤ newCap ∧ (Builtin.append_ #[t, t2] ty2 #[.slice base n cap, conc ρ x]).run P w =
        .ok (.slice (some ⟨w.heap.size, 0, none⟩) (n + k) newCap) { w with drawn := w.drawn + 1, heap := w.heap.push (.cells cs e (0, 0)) } ∧ cs.size = newCap * ae.size ∧
      ∀ (i : Nat) (v : AV), (old ++ xs)[i]? = some v → cs[i]? = some (conc ρ v) := by
  let q : Question := .appendCap (n + k) cap e
  let nc := q.cut (w.tape w.drawn q)
  have hnc : n + k ≤ nc := Nat.le_add_right _ _
  let w1 : World := { w with drawn := w.drawn + 1 }
  have s1 : Sim G ρ h w1 := s.of_heap rfl
  obtain ⟨i, hi, hs, hb, _⟩ := he.run_typeInfo w
  obtain ⟨i1, hi1, hs1, hb1, _⟩ := he.run_typeInfo w1
  obtain ⟨z, hz1, hz2, _⟩ := he.run_zero w1
  have hxr := firstCells_ok (P := P) s1 hx hxl
  have hor := hold w1 rfl
  let cs : Array Value := (concL ρ old).toArray ++ (concL ρ xs).toArray ++ Builtin.zeroCells z.cells (nc - (n + k))
  have hzs : z.cells.size = ae.size := by rw [← c4, ← concL_length ρ, hz2 ρ]; simp
  refine ⟨nc, cs, hnc, ?_, ?_, ?_⟩
  · have hnext : ¬ (Builtin.nextslicecap (n + k) cap * ae.bytes > 2 ^ 48) := by
      have := Nat.mul_le_mul (nextcap_le hn hcap) c3
      omega
    have hroom : ¬ (n + k ≤ cap) := by omega
    have hch : (choose q).run P w = .ok nc w1 := by simp [q, nc, w1, Question.forced]
    have hbz : ¬ ae.bytes = 0 := by omega
    have hmx : ¬ (((n + k : Nat) : Int) > IntKind.i64.max ∧ (False ∨ ae.bytes = 0)) := fun hh => hbz (hh.2.resolve_left id)
    have hk' := lenOf_ok (P := P) (ρ := ρ) (w := w) hk
    have hcomb : ∀ d, (d = TypeDesc.string ∨ ∃ e, d = .slice e) → (underlying t2).run P w = .ok d w →
        (Builtin.append_ #[t, t2] ty2 #[.slice base n cap, conc ρ x]).run P w = .ok (.slice (some ⟨w.heap.size, 0, none⟩) (n + k) nc) { w with drawn := w.drawn + 1, heap := w.heap.push (.cells cs e (0, 0)) } := by
      rintro d hdd hu
      have hint : (match d with | .int _ => true | _ => false) = false := by rcases hdd with rfl | ⟨e, rfl⟩ <;> rfl
      rcases hdd with rfl | ⟨e', rfl⟩
      all_goals
        simp [Builtin.append_, ht.slice w hd, hu, he.run_sizeOf, hk', hroom, hi, hb, hbz, hnext]
        have e0 : (Question.appendCap (n + k) cap e).forced = false := rfl
        have f1 : (typeInfo e).run P w.drew = .ok i1 w.drew := hi1
        have f2 : (Builtin.firstCells ae.size n (Value.slice base n cap)).run P w.drew = .ok (concL ρ old).toArray w.drew := hor
        have f3 : (Builtin.firstCells ae.size k (conc ρ x)).run P w.drew = .ok (concL ρ xs).toArray w.drew := hxr.1
        have f4 : (zeroValue e).run P w.drew = .ok z w.drew := hz1
        simp only [e0, Bool.false_eq_true, if_false, f1, f2, f3, f4, Result.andThen_ok]
        have f5 : cs = (concL ρ old).toArray ++ ((concL ρ xs).toArray ++ Builtin.zeroCells z.cells (nc - (n + k))) := Array.append_assoc
        rw [f5]
        rfl
    rcases h2 with ⟨e', h2⟩ | h2
    · exact hcomb _ (.inr ⟨e', rfl⟩) (h2 w)
    · exact hcomb _ (.inl rfl) (h2 w)
  · simp only [cs, Array.size_append, List.size_toArray, concL_length, zeroCells_size, hlo, hxl, hzs]
    rw [← Nat.add_mul, ← Nat.add_mul]
    congr 1
    omega
  · intro i v hv
    have hlt := (List.getElem?_eq_some_iff.1 hv).1
    have e1 : (concL ρ old).toArray ++ (concL ρ xs).toArray = (concL ρ (old ++ xs)).toArray := by rw [concL_append]; simp
    simp only [cs, e1]
    rw [Array.getElem?_append_left (by simpa [concL_length] using hlt)]
    simp [concL_get, hv]

/-- An append in place. -/
theorem append_here (s : Sim G ρ h w) {a ae : ATy} {e t2 ty2 : TypeId} (ht : TyIs P t a) (hd : a.d = .slice e) (he : TyIs P e ae) (h2 : SeqTy P t2)
    {at' : Addr} {n cap k : Nat} {x : AV} {xs : List AV} {w' : World} (hk : lenOf x = some k) (hx : elems h ae.size k x = some xs) (hxl : xs.length = k * ae.size) (hroom : n + k ≤ cap)
    (hst : (storeCells (at'.add (n * ae.size)) (concL ρ xs)).run P w = .ok () w') :
    (Builtin.append_ #[t, t2] ty2 #[.slice (some at') n cap, conc ρ x]).run P w = .ok (.slice (some at') (n + k) cap) w' := by
  have hxr := (firstCells_ok (P := P) s hx hxl).1
  have hk' := lenOf_ok (P := P) (ρ := ρ) (w := w) hk
  rcases h2 with ⟨e', h2⟩ | h2
  all_goals
    have hu := h2 w
    simp [Builtin.append_, ht.slice w hd, hu, he.run_sizeOf, hk', hroom, hxr, hst]
theorem append_nothing {a ae : ATy} {e t2 ty2 : TypeId} (s : Sim G ρ h w) (ht : TyIs P t a) (hd : a.d = .slice e) (he : TyIs P e ae) (h2 : SeqTy P t2)
    {x : AV} {xs : List AV} (hk : lenOf x = some 0) (hx : elems h ae.size 0 x = some xs) (hxl : xs.length = 0 * ae.size) :
    (Builtin.append_ #[t, t2] ty2 #[.slice none 0 0, conc ρ x]).run P w = .ok (.slice none 0 0) w := by
  have hxr := (firstCells_ok (P := P) s hx hxl).1
  have hk' := lenOf_ok (P := P) (ρ := ρ) (w := w) hk
  rcases h2 with ⟨e', h2⟩ | h2
  all_goals
    have hu := h2 w
    simp [Builtin.append_, ht.slice w hd, hu, he.run_sizeOf, hk', hxr]

theorem appendHere_ok (s : Sim G ρ h w) {v : AV} {b off : Nat} {xs : List AV} (hxs : loL h.next xs = true) (hv : v.lo h.next = true) {x : Sem Value}
    (hx : ∀ w', (storeCells ((ρ b).at off) (concL ρ xs)).run P w = .ok () w' → x.run P w = .ok (conc ρ v) w') : VOk P G ρ h w x (appendHere v b off xs h) := by
  unfold appendHere
  split
  · exact ⟨ρ, w, hx w rfl, .refl s, hv⟩
  · split
    · rename_i h' hw
      obtain ⟨w', h1, h2⟩ := s.write (P := P) hw hxs
      exact ⟨ρ, w', hx w' h1, h2, h2.lo hv⟩
    · trivial

theorem fzMove_div (fz off e : Nat) : fzMove fz off e / 65536 = fz / 65536 - off := by
  unfold fzMove
  rw [cnd_eq]
  split
  · rename_i hc
    simp only [Bool.and_eq_true] at hc
    have hc : e + 1 < 65536 := blt_iff.1 hc.1.1
    show ((fz / 65536 - off) * 65536 + (e + 1)) / 65536 = _
    omega
  · show ((fz / 65536 - off) * 65536) / 65536 = _
    omega
theorem fzMove_mod {fz off e t : Nat} (h : fzMove fz off e % 65536 = t + 1) : e = t ∧ fz % 65536 = t + 1 ∧ off = 0 := by
  unfold fzMove at h
  rw [cnd_eq] at h
  split at h
  · rename_i hc
    simp only [Bool.and_eq_true, Nat.beq_eq] at hc
    have hc1 : e + 1 < 65536 := blt_iff.1 hc.1.1
    have hc2 : fz % 65536 = e + 1 := hc.1.2
    have h : ((fz / 65536 - off) * 65536 + (e + 1)) % 65536 = t + 1 := h
    omega
  · have h : ((fz / 65536 - off) * 65536) % 65536 = t + 1 := h
    omega
theorem Step.grown (s : Sim G ρ h w) {l : List AV} (fz : Nat) {e : TypeId} (hfz : ∀ t, fz % 65536 = t + 1 → e = t) (hl : loL h.next l = true) {cs : Array Value} (hlen : l.length ≤ cs.size) (hcs : ∀ (i : Nat) (v : AV), l[i]? = some v → cs[i]? = some (Ev.conc ρ v)) :
    Step G ρ h w (ρ.upd h.next ⟨w.heap.size, 0, cs.size, none⟩) (h.add (.cells l fz)) { w with drawn := w.drawn + 1, heap := w.heap.push (.cells cs e (0, 0)) } := by
  have s1 := Step.drew s
  refine s1.trans (Step.add s1.sim (w := { w with drawn := w.drawn + 1 }) (ab := .cells l fz) (size := cs.size) hl ?_)
  exact ⟨cs, e, (0, 0), by simp, by simp, hlen, fun i v hv => by simpa using hcs i v hv, fun i _ _ hc => by simp at hc, fun t ht => ⟨hfz t ht, rfl, Nat.zero_le _⟩⟩

/-- Behind an append that makes a new row. -/
theorem appendNew_ok (s : Sim G ρ h w) {a ae : ATy} {e t2 ty2 : TypeId} (ht : TyIs P t a) (hd : a.d = .slice e) (he : TyIs P e ae) (h2 : SeqTy P t2)
    (c1 : 0 < ae.size) (c2 : 0 < ae.bytes) (c3 : ae.bytes ≤ 1024) (c4 : ae.zero.length = ae.size) {sv x : AV} {base : Option Addr} {n cap k : Nat} {xs : List AV} (hsv : conc ρ sv = .slice base n cap)
    (hol : ∀ old, elems h ae.size n sv = some old → old.length = n * ae.size) (hk : lenOf x = some k) (hx : elems h ae.size k x = some xs) (hxl : xs.length = k * ae.size) (hgrow : cap < n + k) (hn : n + k ≤ 16777216) (hcap : cap ≤ 16777216) :
    VOk P G ρ h w (Builtin.append_ #[t, t2] ty2 #[conc ρ sv, conc ρ x]) (appendNew e ae sv n (n + k) xs h) := by
  unfold appendNew
  split
  · rename_i old ho
    rw [forceL_eq, forceN_eq, forceN_eq]
    have hlo := hol old ho
    obtain ⟨nc, cs, h3, h4, h5, h6⟩ := append_grow (ty2 := ty2) s ht hd he h2 c1 c2 c3 c4 (base := base) (old := old)
      (fun w' hw' => by rw [← hsv]; exact (firstCells_ok (P := P) (s.of_heap hw') ho hlo).1) hlo hk hx hxl hgrow hn hcap
    have hl : loL h.next (old ++ xs) = true := allL_append (firstCells_ok (P := P) s ho hlo).2 (firstCells_ok (P := P) s hx hxl).2
    refine ⟨_, _, ?_, Step.grown s (fzNew e) (e := e) (fun t ht => fzNew_mod ht) hl (by rw [List.length_append, hlo, hxl, h5, ← Nat.add_mul]; exact Nat.mul_le_mul_right _ h3) h6, lo_new⟩
    rw [hsv, h4]
    simp only [conc, Map.upd_self, Loc.at, ite_self, Nat.add_zero, h5, Nat.sub_zero, Nat.mul_div_cancel _ c1]
  · trivial

theorem elems_len {es n : Nat} {x : AV} {l : List AV} (hx : ∀ str, x ≠ .str str) (he : elems h es n x = some l) : l.length = n * es := by
  unfold elems at he
  split at he
  · split at he
    · exact (sub_sound he).1
    · cases he
  · split at he
    · exact (sub_sound he).1
    · cases he
  · rw [cnd_eq] at he
    split at he
    · rename_i hn
      cases he
      rw [Nat.eq_of_beq_eq_true hn, Nat.zero_mul]; rfl
    · cases he
  · rename_i str; exact absurd rfl (hx str)
  · cases he

/-- An append that may be in place or not: both ways. -/
theorem appendOpen_ok (s : Sim G ρ h w) {a ae : ATy} {e t2 ty2 : TypeId} (ht : TyIs P t a) (hd : a.d = .slice e) (he : TyIs P e ae) (h2 : SeqTy P t2)
    (c1 : 0 < ae.size) (c2 : 0 < ae.bytes) (c3 : ae.bytes ≤ 1024) (c4 : ae.zero.length = ae.size) {b off n k fz : Nat} {c : List AV} {x : AV} {xs : List AV} (hb : h.t.get b = some (.cells c fz)) (hlob : Nat.blt b h.next = true)
    (hk : lenOf x = some k) (hx : elems h ae.size k x = some xs) (hxl : xs.length = k * ae.size) (hn : n + k ≤ 16777216) :
    VOk P G ρ h w (Builtin.append_ #[t, t2] ty2 #[conc ρ (.sliceU b off n ae.size), conc ρ x]) (appendOpen e ae b off n (n + k) c fz xs h) := by
  obtain ⟨_, hblo, cs, e', fr, g1, g2, g3, g4, g5⟩ := s.blk b _ hb
  have hxs := (firstCells_ok (P := P) s hx hxl).2
  unfold appendOpen
  have m1 : Nat.add off (Nat.mul (n + k) ae.size) = off + (n + k) * ae.size := rfl
  have m2 : Nat.add off (Nat.mul n ae.size) = off + n * ae.size := rfl
  rw [m1, m2, len_eq, cnd_eq]
  split
  · rename_i hc
    have hc := ble_iff.1 hc
    have hroom : n + k ≤ ((ρ b).size - off) / ae.size := by rw [Nat.le_div_iff_mul_le c1]; omega
    refine appendHere_ok s hxs (v := .sliceU b off (n + k) ae.size) hlob fun w' hw' => ?_
    have := append_here (ty2 := ty2) s ht hd he h2 (at' := (ρ b).at off) (n := n) (cap := ((ρ b).size - off) / ae.size) (w' := w') hk hx hxl hroom (by rw [Loc.at_add]; exact hw')
    simpa only [conc] using this
  · rename_i hc
    have hc : ¬ off + (n + k) * ae.size ≤ c.length := fun e => hc (ble_iff.2 e)
    rw [cnd_eq]
    split
    · rename_i hc2
      simp only [Bool.and_eq_true, ble_iff] at hc2
      obtain ⟨⟨hc2, hone⟩, hofc⟩ := hc2
      have hc2 : fz / 65536 ≤ off + n * ae.size := hc2
      split
      · rename_i old ho
        rw [forceL_eq, forceN_eq, forceN_eq]
        have hol : elems h ae.size n (.sliceU b off n ae.size) = some old := by
          show (match known h b with | some (c, _) => Ev.sub c off (Nat.mul n ae.size) | none => none) = some old
          rw [show known h b = some (c, fz) by unfold known; rw [hb]]
          exact ho
        have hlo : old.length = n * ae.size := (sub_sound ho).1
        have hl : loL h.next (old ++ xs) = true := allL_append (firstCells_ok (P := P) s hol hlo).2 hxs
        have hll : (old ++ xs).length = (n + k) * ae.size := by rw [List.length_append, hlo, hxl, Nat.add_mul]
        by_cases hroom : n + k ≤ ((ρ b).size - off) / ae.size
        · -- in place
          have hfit : (n + k) * ae.size ≤ (ρ b).size - off := (Nat.le_div_iff_mul_le c1).1 hroom
          obtain ⟨_, hsub2, _, _⟩ := sub_sound ho
          have hsub2 : ∀ i, i < n * ae.size → old[i]? = c[off + i]? := hsub2
          have hofl : off + (n + k) * ae.size ≤ (ρ b).size := by omega
          have hsplit : (n + k) * ae.size = n * ae.size + k * ae.size := Nat.add_mul _ _ _
          obtain ⟨w', cs', f1, f2, f3, f4, f5, f6, f7, f8, f9⟩ := run_stores P (ρ b).blk ((ρ b).shift + (off + n * ae.size)) (concL ρ xs) 0 w cs e' fr g1
            (by rw [concL_length, hxl]; omega)
            (fun j hj => by
              rw [concL_length, hxl] at hj
              have := g5.1 (off + n * ae.size + j) (by omega) (by omega)
              rwa [← Nat.add_assoc] at this)
            (fun v hv => by
              rw [concL_eq] at hv
              obtain ⟨y, hy, rfl⟩ := List.mem_map.1 hv
              exact one_sound (allOne_iff.1 hone y hy))
          have hrun := append_here (ty2 := ty2) s ht hd he h2 (at' := (ρ b).at off) (n := n) (cap := ((ρ b).size - off) / ae.size) (w' := w') hk hx hxl hroom (by rw [Loc.at_add, Loc.at_none (s.spot b (.inr ⟨_, hb⟩))]; exact f1)
          refine ⟨_, w', ?_, Step.alias s hb (fun q => by have q : c.length < fz / 65536 := q.1; have hofc : off + n * ae.size ≤ c.length := (by simpa only [len_eq] using hofc); omega) (L := ⟨(ρ b).blk, (ρ b).shift + off, (ρ b).size - off, none⟩) rfl hl f7 f8 f9 f6 f5 ⟨cs', e', fr, f2, ?_, ?_, ?_, ?_, fun t ht => ⟨(g5.2 t (fzMove_mod ht).2.1).1, by show (ρ b).shift + off = 0; rw [(g5.2 t (fzMove_mod ht).2.1).2.1, (fzMove_mod ht).2.2], by rw [fzMove_div, (fzMove_mod ht).2.2]; exact (g5.2 t (fzMove_mod ht).2.1).2.2⟩⟩, blt_iff.2 (Nat.lt_succ_self h.next)⟩
          · have e1 : conc ρ (.sliceU b off n ae.size) = .slice (some ((ρ b).at off)) n (((ρ b).size - off) / ae.size) := rfl
            rw [e1, hrun]
            have hsp := s.spot b (.inr ⟨_, hb⟩)
            simp only [conc, Map.upd_self, Loc.at, hsp, ite_self, Nat.add_zero, Nat.sub_zero]
          · show (ρ b).shift + off + ((ρ b).size - off) = cs'.size
            omega
          · show (old ++ xs).length ≤ (ρ b).size - off
            omega
          · intro i v hv
            show cs'[(ρ b).shift + off + i]? = _
            rw [f4]
            simp only [concL_length, Nat.add_zero, hxl]
            by_cases hi : i < n * ae.size
            · rw [List.getElem?_append_left (by omega), hsub2 i hi] at hv
              rw [if_neg (by omega), Nat.add_assoc]
              exact g4 _ v hv
            · rw [List.getElem?_append_right (by omega), hlo] at hv
              have hlt := (List.getElem?_eq_some_iff.1 hv).1
              rw [if_pos (by omega), show (ρ b).shift + off + i - ((ρ b).shift + (off + n * ae.size)) = i - n * ae.size by omega, concL_get, hv]
              rfl
          · intro i h1 h2 hfr
            refine g5.1 (off + i) (by rw [fzMove_div] at h1; omega) (by have : i < (ρ b).size - off := h2; omega) ?_
            rw [← Nat.add_assoc]
            exact hfr
        · -- a new row
          have hcap : ((ρ b).size - off) / ae.size < n + k := by omega
          obtain ⟨nc, cs2, h3, h4, h5, h6⟩ := append_grow (ty2 := ty2) s ht hd he h2 c1 c2 c3 c4 (base := some ((ρ b).at off)) (n := n) (cap := ((ρ b).size - off) / ae.size) (old := old)
            (fun w' hw' => by
              have := (firstCells_ok (P := P) (s.of_heap hw') hol hlo).1
              simpa only [conc] using this) hlo hk hx hxl hcap hn (by omega)
          have s1 := Step.del s b
          refine ⟨_, _, ?_, s1.trans (Step.grown s1.sim (fzMove fz off e) (l := old ++ xs) (e := e) (fun t ht => (fzMove_mod ht).1) hl (by rw [hll, h5]; exact Nat.mul_le_mul_right _ h3) h6), blt_iff.2 (Nat.lt_succ_self h.next)⟩
          have e1 : conc ρ (.sliceU b off n ae.size) = .slice (some ((ρ b).at off)) n (((ρ b).size - off) / ae.size) := rfl
          rw [e1, h4]
          have e2 : (h.del b).next = h.next := rfl
          simp only [conc, e2, Map.upd_self, Loc.at, ite_self, Nat.add_zero, h5, Nat.sub_zero, Nat.mul_div_cancel _ c1]
      · trivial
    · trivial
end
end Go.Ev
namespace Go.Ev
section
variable {P : Program} {G : Nat} {ρ : Map} {h : AH} {w : World} {t : TypeId} {ty : PT ATy} (hT : ∀ t a, ty.get t = some a → TyIs P t a)
include hT

theorem evAppend_ok (s : Sim G ρ h w) {a : ATy} {t2 ty2 : TypeId} (ht : TyIs P t a) (h2 : SeqTy P t2) {sv x : AV} (hs : sv.lo h.next = true) :
    VOk P G ρ h w (Builtin.append_ #[t, t2] ty2 #[conc ρ sv, conc ρ x]) (evAppend ty a sv x h) := by
  unfold evAppend
  split
  · rename_i e hd
    split
    · rename_i ae hae
      have he := hT _ _ hae
      split
      · rename_i k hk
        split
        · rename_i xs hx
          rw [cnd_eq]
          split
          · rename_i hc
            simp only [Bool.and_eq_true, ble_iff, blt_iff] at hc
            obtain ⟨⟨⟨⟨c1, c2⟩, c3⟩, c4⟩, c5⟩ := hc
            have c4 := Nat.eq_of_beq_eq_true c4
            have c5 := Nat.eq_of_beq_eq_true c5
            rw [len_eq] at c4 c5
            have hxl : xs.length = k * ae.size := c5
            have hxs := (firstCells_ok (P := P) s hx hxl).2
            split
            · rw [cnd_eq]
              split
              · rename_i hk0
                have hk0 := Nat.eq_of_beq_eq_true hk0
                subst hk0
                exact ⟨ρ, w, append_nothing s ht hd he h2 hk hx hxl, .refl s, rfl⟩
              · rename_i hk0
                have hk0 : ¬ k = 0 := fun e => hk0 (by rw [e]; rfl)
                rw [cnd_eq]
                split
                · rename_i hkl
                  have hkl : k ≤ 16777216 := ble_iff.1 hkl
                  have := appendNew_ok (ty2 := ty2) s ht hd he h2 c1 c2 c3 c4 (sv := .nils) (base := none) (n := 0) (cap := 0) (k := k) (x := x) (xs := xs) rfl
                    (fun old ho => elems_len (fun _ e => by cases e) ho) hk hx hxl (by omega) (by omega) (by omega)
                  rw [Nat.zero_add] at this
                  exact this
                · trivial
            · rename_i b off n c
              rw [forceN_eq]
              rw [cnd_eq]
              split
              · rename_i hroom
                have hroom : n + k ≤ c := ble_iff.1 hroom
                refine appendHere_ok s hxs (v := .slice b off (n + k) c) hs fun w' hw' => ?_
                have := append_here (ty2 := ty2) s ht hd he h2 (at' := (ρ b).at off) (n := n) (cap := c) (w' := w') hk hx hxl hroom (by rw [Loc.at_add]; exact hw')
                simpa only [conc] using this
              · rename_i hroom
                have hroom : ¬ n + k ≤ c := fun e => hroom (ble_iff.2 e)
                rw [cnd_eq]
                split
                · rename_i hl
                  simp only [Bool.and_eq_true, ble_iff] at hl
                  have hl1 : n + k ≤ 16777216 := hl.1
                  have hl2 : c ≤ 16777216 := hl.2
                  exact appendNew_ok (ty2 := ty2) s ht hd he h2 c1 c2 c3 c4 (sv := .slice b off n c) rfl (fun old ho => elems_len (fun _ e => by cases e) ho) hk hx hxl (by omega) hl1 hl2
                · trivial
            · rename_i b off n es
              rw [forceN_eq]
              rw [cnd_eq]
              split
              · rename_i hl
                simp only [Bool.and_eq_true, ble_iff] at hl
                have hes := Nat.eq_of_beq_eq_true hl.1
                subst hes
                have hl2 : n + k ≤ 16777216 := hl.2
                split
                · rename_i c fz hkn
                  exact appendOpen_ok s ht hd he h2 c1 c2 c3 c4 (known_some hkn) hs hk hx hxl hl2
                · trivial
              · trivial
            · trivial
          · trivial
        · trivial
      · trivial
    · trivial
  · trivial

theorem evCopy_ok (s : Sim G ρ h w) {a : ATy} {t2 ty2 : TypeId} (ht : TyIs P t a) {d x : AV} :
    VOk P G ρ h w (Builtin.copy_ #[t, t2] ty2 #[conc ρ d, conc ρ x]) (evCopy ty a d x h) := by
  unfold evCopy
  split
  · rename_i e hd
    split
    · rename_i ae hae
      have he := hT _ _ hae
      split
      · rename_i k m hk hm
        rw [forceN_eq]
        split
        · rename_i xs hx
          have hn : cnd (Nat.ble k m) k m = Nat.min k m := by
            rw [cnd_eq]
            split
            · rename_i c; exact (Nat.min_eq_left (ble_iff.1 c)).symm
            · rename_i c; exact (Nat.min_eq_right (by have : ¬ k ≤ m := fun e => c (ble_iff.2 e); omega)).symm
          rw [hn] at hx ⊢
          rw [cnd_eq]
          split
          · rename_i hl
            have hl := Nat.eq_of_beq_eq_true hl
            rw [len_eq] at hl
            obtain ⟨hxr, hxs⟩ := firstCells_ok (P := P) s hx hl
            have hk' := lenOf_ok (P := P) (ρ := ρ) (w := w) hk
            split
            · rename_i b off nn c
              cases hm
              refine appendHere_ok s hxs (v := .int .i64 (Int.ofNat (Nat.min k m))) rfl fun w' hw' => ?_
              simp [Builtin.copy_, ht.slice w hd, he.run_sizeOf, hk', conc, hxr, hw', goInt]
            · rename_i b off nn c
              cases hm
              refine appendHere_ok s hxs (v := .int .i64 (Int.ofNat (Nat.min k m))) rfl fun w' hw' => ?_
              simp [Builtin.copy_, ht.slice w hd, he.run_sizeOf, hk', conc, hxr, hw', goInt]
            · cases hm
              refine ⟨ρ, w, ?_, .refl s, rfl⟩
              simp [Builtin.copy_, ht.slice w hd, he.run_sizeOf, hk', conc, goInt]
              have e0 : Nat.min k 0 = 0 := Nat.min_zero k
              rw [e0] at hxr
              simp [hxr]
            · trivial
          · trivial
        · trivial
      · trivial
    · trivial
  · trivial
end
end Go.Ev
namespace Go.Ev
section
variable {P : Program} {G : Nat} {ρ : Map} {h : AH} {w : World} {t : TypeId} {ty : PT ATy} (hT : ∀ t a, ty.get t = some a → TyIs P t a)

theorem concE_len (es : List (AV × AV × Nat)) : (concE ρ es).length = es.length := by simp [concE]
theorem Sim.map (s : Sim G ρ h w) {b : Nat} {es : List (AV × AV × Nat)} {ck : Nat} (hb : h.t.get b = some (.map es ck)) : (getObj (ρ b).blk).run P w = .ok (.map (concE ρ es).toArray ck) w := by
  obtain ⟨_, _, _, h2⟩ := s.blk b _ hb
  simp [getObj, Sem.run, h2]
theorem run_getObj {r : Nat} {o : Obj} (hb : w.heap[r]? = some o) (ho : match o with | .cells .. => False | _ => True) : (getObj r).run P w = .ok o w := by
  cases o <;> first | exact ho.elim | simp [getObj, Sem.run, hb]
theorem run_setObj {r : Nat} {o o' : Obj} (hb : w.heap[r]? = some o) (ho : match o with | .cells .. => False | _ => True) : (setObj r o').run P w = .ok () { w with heap := w.heap.setIfInBounds r o' } := by
  cases o <;> first | exact ho.elim | simp [setObj, Sem.run, hb]
/-- An object that is no row of cells is laid anew. -/
theorem Step.setObj (s : Sim G ρ h w) {b : Nat} {old ab : ABlock} {o : Obj} (hold : h.t.get b = some old) (hns : ¬ old.Still) (hb : ab.Lo h.next) (hsh : (ρ b).shift = 0)
    (hr : blockRel ρ (ρ b) { w with heap := w.heap.setIfInBounds (ρ b).blk o } ab) : Step G ρ h w ρ (h.set b ab) { w with heap := w.heap.setIfInBounds (ρ b).blk o } :=
  Step.set s hold hns hb rfl rfl rfl (by simp) (fun B hB => by
    show (w.heap.setIfInBounds (ρ b).blk o)[B]? = _
    rw [Array.getElem?_setIfInBounds_ne (fun e => hB e.symm)]) hr
theorem heap_set_self {r : Nat} {o x : Obj} (hb : w.heap[r]? = some x) : (w.heap.setIfInBounds r o)[r]? = some o := by
  have := (Array.getElem?_eq_some_iff.1 hb).1
  rw [Array.getElem?_setIfInBounds_self, if_pos this]

include hT in
theorem evLen_ok (s : Sim G ρ h w) {a : ATy} {ts : Array TypeId} {ty2 : TypeId} (ht : TyIs P t a) (hts : ts[0]? = some t) {x v : AV} (hv : evLen ty a x h = some v) :
    (Builtin.len_ ts ty2 #[conc ρ x]).run P w = .ok (conc ρ v) w ∧ v.lo h.next = true := by
  unfold evLen at hv
  split at hv
  · rename_i hd
    rw [mkI_eq, len_eq] at hv
    cases hv
    exact ⟨by simp [Builtin.len_, hts, ht.str w hd, conc, goInt]; rfl, rfl⟩
  · rename_i hd; cases hv; exact ⟨by simp [Builtin.len_, hts, ht.slice w hd, conc, goInt], rfl⟩
  · rename_i hd; cases hv; exact ⟨by simp [Builtin.len_, hts, ht.slice w hd, conc, goInt], rfl⟩
  · rename_i hd; cases hv; exact ⟨by simp [Builtin.len_, hts, ht.slice w hd, conc, goInt], rfl⟩
  · rename_i hd; cases hv; exact ⟨by simp [Builtin.len_, hts, ht.array w hd, conc, goInt], rfl⟩
  · rename_i hd
    split at hv
    · rename_i aa haa
      split at hv
      · rename_i hd2
        cases hv
        exact ⟨by simp [Builtin.len_, hts, ht.ptr w hd, (hT _ _ haa).array w hd2, conc, goInt], rfl⟩
      · cases hv
    · cases hv
  · rename_i hd; cases hv; exact ⟨by simp [Builtin.len_, hts, ht.map w hd, conc, goInt], rfl⟩
  · rename_i b hd
    unfold mapLen at hv
    split at hv
    · rename_i es ck hb
      rw [mkI_eq, len_eq] at hv
      cases hv
      exact ⟨by simp [Builtin.len_, hts, ht.map w hd, conc, goInt, s.map hb, concE_len], rfl⟩
    · cases hv
  · cases hv
theorem evCap_ok {a : ATy} {ts : Array TypeId} {ty2 : TypeId} (ht : TyIs P t a) (hts : ts[0]? = some t) {x v : AV} (hv : evCap a x = some v) :
    (Builtin.cap_ ts ty2 #[conc ρ x]).run P w = .ok (conc ρ v) w ∧ v.lo h.next = true := by
  unfold evCap at hv
  split at hv
  · rename_i hd; cases hv; exact ⟨by simp [Builtin.cap_, hts, ht.slice w hd, conc, goInt], rfl⟩
  · rename_i hd; cases hv; exact ⟨by simp [Builtin.cap_, hts, ht.slice w hd, conc, goInt], rfl⟩
  · cases hv
theorem minI_ok {x y v : AV} {min : Bool} (hv : minI min x y = some v) : ((if min then Builtin.min2 else Builtin.max2) (conc ρ x) (conc ρ y)).run P w = .ok (conc ρ v) w ∧ v.lo h.next = true := by
  unfold minI at hv
  split at hv
  · rename_i k a j b
    rw [cnd_eq] at hv
    split at hv
    · rename_i hk
      have := kindEq_iff.1 hk
      subst this
      cases min
      · simp only [cnd_eq, leI_eq, Bool.false_eq_true, if_false] at hv ⊢
        split at hv <;> cases hv
        · rename_i hc
          have hc := of_decide_eq_true hc
          exact ⟨by simp [Builtin.max2, conc]; omega, rfl⟩
        · rename_i hc
          have hc : ¬ b ≤ a := fun e => hc (decide_eq_true e)
          exact ⟨by simp [Builtin.max2, conc]; omega, rfl⟩
      · simp only [cnd_eq, leI_eq, if_true] at hv ⊢
        split at hv <;> cases hv
        · rename_i hc
          have hc := of_decide_eq_true hc
          exact ⟨by simp [Builtin.min2, conc]; omega, rfl⟩
        · rename_i hc
          have hc : ¬ a ≤ b := fun e => hc (decide_eq_true e)
          exact ⟨by simp [Builtin.min2, conc]; omega, rfl⟩
    · cases hv
  · cases hv
theorem minL_ok {min : Bool} : ∀ {l : List AV} {x v : AV}, x.lo h.next = true → minL min l x = some v →
    ((concL ρ l).foldlM (if min then Builtin.min2 else Builtin.max2) (conc ρ x)).run P w = .ok (conc ρ v) w ∧ v.lo h.next = true
  | [], x, v, hx, hv => by cases hv; exact ⟨rfl, hx⟩
  | y :: l, x, v, hx, hv => by
    unfold minL at hv
    split at hv
    · rename_i z hz
      obtain ⟨h1, h2⟩ := minI_ok (P := P) (ρ := ρ) (h := h) (w := w) hz
      obtain ⟨h3, h4⟩ := minL_ok h2 hv
      exact ⟨by simp only [Ev.concL, List.foldlM_cons, Sem.run_bind, h1, Result.andThen_ok, h3], h4⟩
    · cases hv
end
end Go.Ev
namespace Go.Ev
section
variable {P : Program} {G : Nat} {ρ : Map} {h : AH} {w : World} {t : TypeId} {ty : PT ATy}

theorem keyEq_some {j k : AV} {b : Bool} (hb : keyEq j k = some b) :
    (∃ i x y, j = .int i x ∧ k = .int i y ∧ b = (x == y)) ∨ (∃ x y, j = .str x ∧ k = .str y ∧ b = (x == y)) := by
  unfold keyEq at hb
  split at hb
  · rename_i i x i' y
    rw [cnd_eq] at hb
    split at hb
    · rename_i hk
      have := kindEq_iff.1 hk
      subst this
      cases hb
      exact .inl ⟨_, _, _, rfl, rfl, eqI_eq x y⟩
    · cases hb
  · cases hb
    rename_i x y
    exact .inr ⟨_, _, rfl, rfl, eqS_eq x y⟩
  · cases hb
theorem bytes_beq (x y : List UInt8) : ((⟨x.toArray⟩ : ByteArray) == ⟨y.toArray⟩) = (x == y) := by
  show (x.toArray == y.toArray) = (x == y)
  rw [List.beq_toArray]
/-- A key's type: an integer's or a string's. -/
def KeyTy (P : Program) (w : World) (kt : TypeId) (k : AV) : Prop :=
  (∃ i j n, (underlying kt).run P w = .ok (.int i) w ∧ k = .int j n) ∨ (∃ s, (underlying kt).run P w = .ok .string w ∧ k = .str s)
theorem plainKey_ok {ak : ATy} {kt : TypeId} {k : AV} (hk : TyIs P kt ak) (hp : plainKey ak.d k = true) (w : World) : KeyTy P w kt k := by
  unfold plainKey at hp
  split at hp
  · rename_i i j n hd; exact .inl ⟨_, _, _, hk.int w hd, rfl⟩
  · rename_i s hd; exact .inr ⟨_, hk.str w hd, rfl⟩
  · cases hp
theorem run_checkKey {kt : TypeId} {k : AV} (hk : KeyTy P w kt k) (e : Bool) (n : Nat) : (Instr.checkKey e (n + 1) kt (conc ρ k)).run P w = .ok () w := by
  rcases hk with ⟨i, j, m, h1, rfl⟩ | ⟨s, h1, rfl⟩
  · simp [Instr.checkKey, h1, conc]
  · simp [Instr.checkKey, h1, conc]
theorem findNow_ok {kd : TypeDesc} {k : AV} (hkd : (∃ i j n, kd = .int i ∧ k = .int j n) ∨ (∃ s, kd = .string ∧ k = .str s)) : ∀ {es : List (AV × AV × Nat)} {r : Option (Nat × AV)} (i : Nat), findK k es = some r →
    Instr.findNow kd (conc ρ k) (concE ρ es) i = some (r.map fun x => (i + x.1, conc ρ x.2))
  | [], r, i, h => by cases h; rfl
  | (k', v, n) :: es, r, i, h => by
    unfold findK at h
    have key : ∀ b, keyEq k k' = some b → Instr.sameNow kd (conc ρ k) (conc ρ k') = some b := by
      intro b hb
      rcases keyEq_some hb with ⟨i, x, y, rfl, rfl, rfl⟩ | ⟨x, y, rfl, rfl, rfl⟩
      · rcases hkd with ⟨i', j', n', rfl, _⟩ | ⟨s, rfl, hs⟩
        · simp [Instr.sameNow, conc]
        · cases hs
      · rcases hkd with ⟨i', j', n', rfl, hs⟩ | ⟨s, rfl, _⟩
        · cases hs
        · simp only [Instr.sameNow, conc, bytes_beq]
    split at h
    · rename_i hk
      cases h
      have := key true hk
      simp only [concE, List.map_cons, Instr.findNow, this, Option.map_some, Nat.add_zero]
    · rename_i hk
      have hs := key false hk
      split at h
      · rename_i i' v' hf
        cases h
        have ih := findNow_ok hkd (i + 1) hf
        simp only [concE, List.map_cons, Instr.findNow, hs]
        have ih' : Instr.findNow kd (conc ρ k) (es.map fun e => { key := conc ρ e.1, val := conc ρ e.2.1, born := e.2.2 : MapEntry }) (i + 1) = _ := ih
        rw [ih']
        simp only [Option.map_some]
        congr 3
        omega
      · rename_i hf
        cases h
        have ih := findNow_ok hkd (i + 1) hf
        simp only [concE, List.map_cons, Instr.findNow, hs]
        exact ih
      · cases h
    · cases h
theorem run_findKey {kt : TypeId} {k : AV} (hk : KeyTy P w kt k) {es : List (AV × AV × Nat)} {r : Option (Nat × AV)} (hf : findK k es = some r) :
    (Instr.findKey kt (conc ρ k) (concE ρ es)).run P w = .ok (r.map fun x => (x.1, conc ρ x.2)) w := by
  rcases hk with ⟨i, j, m, h1, h2⟩ | ⟨s, h1, h2⟩
  · have := findNow_ok (ρ := ρ) (.inl ⟨i, j, m, rfl, h2⟩) 0 hf
    simp only [Instr.findKey, Sem.run_bind, h1, Result.andThen_ok, this, Sem.run_pure, Nat.zero_add]
  · have := findNow_ok (ρ := ρ) (.inr ⟨s, rfl, h2⟩) 0 hf
    simp only [Instr.findKey, Sem.run_bind, h1, Result.andThen_ok, this, Sem.run_pure, Nat.zero_add]
theorem findK_get : ∀ {es : List (AV × AV × Nat)} {k : AV} {i : Nat} {v : AV}, findK k es = some (some (i, v)) → ∃ k' n, es[i]? = some (k', v, n) ∧ keyEq k k' = some true
  | [], k, i, v, h => by cases h
  | (k', v', n) :: es, k, i, v, h => by
    unfold findK at h
    split at h
    · rename_i hk; cases h; exact ⟨k', n, rfl, hk⟩
    · split at h
      · rename_i i' v'' hf
        cases h
        obtain ⟨k1, n1, h1, h2⟩ := findK_get hf
        exact ⟨k1, n1, h1, h2⟩
      · cases h
      · cases h
    · cases h
theorem zeroOf_ok {t : TypeId} {a : ATy} (ht : TyIs P t a) {z : AV} (hz : zeroOf a = some z) (w : World) : (zeroValue t).run P w = .ok (conc ρ z) w ∧ ∀ p, z.all p = true := by
  obtain ⟨zv, h1, h2, h3⟩ := ht.run_zero w
  unfold zeroOf at hz
  rw [cnd_eq] at hz
  split at hz
  · rename_i hagg
    cases hz
    rw [hagg] at h3
    cases zv <;> first | (cases h3; done) | skip
    rename_i cs
    refine ⟨?_, fun p => ht.zero p⟩
    rw [h1]
    congr 1
    simp only [conc]
    congr 1
    apply Array.ext'
    exact (h2 ρ).symm
  · rename_i hagg
    split at hz
    · rename_i y hy
      cases hz
      have h3 : isAggV zv = false := by rw [h3]; exact Bool.eq_false_iff.2 hagg
      have hc : zv.cells = #[zv] := by cases zv <;> first | rfl | cases h3
      have := h2 ρ
      rw [hy, hc] at this
      simp only [Ev.concL] at this
      have e : conc ρ z = zv := by simpa using this
      refine ⟨by rw [h1, e], fun p => ?_⟩
      have := ht.zero p
      rw [hy] at this
      simpa [allL] using this
    · cases hz
theorem found_ok {ok is : Bool} {v : AV} : conc ρ (found ok is v) = (if ok then .tuple #[conc ρ v, .bool is] else conc ρ v) := by
  unfold found
  rw [cnd_eq]
  cases ok <;> rfl
theorem found_all {ok is : Bool} {v : AV} {p : Nat → Bool} (hv : v.all p = true) : (found ok is v).all p = true := by
  unfold found
  rw [cnd_eq]
  cases ok
  · exact hv
  · simp [AV.all, allL, hv]
theorem Sim.mapLo (s : Sim G ρ h w) {b : Nat} {es : List (AV × AV × Nat)} {ck : Nat} (hb : h.t.get b = some (.map es ck)) : allE (fun b => Nat.blt b h.next) es := (s.blk b _ hb).2.1

variable (hT : ∀ t a, ty.get t = some a → TyIs P t a)
include hT
theorem evLookup_ok (s : Sim G ρ h w) {a : ATy} (ht : TyIs P t a) (x k : AV) (ok : Bool) : VOk P G ρ h w (Instr.lookup t (conc ρ x) (conc ρ k) ok) (evLookup ty a x k ok h) := by
  unfold evLookup
  split
  · rename_i kt et hd
    split
    · rename_i ak hak
      split
      · rename_i ae hae
        rw [cnd_eq]
        split
        · rename_i hp
          have hk := plainKey_ok (hT _ _ hak) hp w
          have hck := fun e => run_checkKey (ρ := ρ) hk e 9999
          split
          · split
            · rename_i z hz
              obtain ⟨h1, h2⟩ := zeroOf_ok (ρ := ρ) (hT _ _ hae) hz w
              refine ⟨ρ, w, ?_, .refl s, found_all (h2 _)⟩
              have hf := run_findKey (ρ := ρ) hk (es := []) (r := none) rfl
              have hf' : (Instr.findKey kt (conc ρ k) []).run P w = .ok none w := hf
              simp [Instr.lookup, ht.map w hd, conc, hck, hf', h1, found_ok]
            · trivial
          · rename_i b
            split
            · rename_i es ck hb
              split
              · rename_i i v hf
                have hf' := run_findKey (ρ := ρ) hk hf
                obtain ⟨k', n, h1, _⟩ := findK_get hf
                refine ⟨ρ, w, ?_, .refl s, found_all (s.mapLo hb _ (List.mem_of_getElem? h1)).2⟩
                simp [Instr.lookup, ht.map w hd, conc, s.map hb, hck, hf', found_ok]
              · rename_i hf
                have hf' := run_findKey (ρ := ρ) hk hf
                split
                · rename_i z hz
                  obtain ⟨h1, h2⟩ := zeroOf_ok (ρ := ρ) (hT _ _ hae) hz w
                  refine ⟨ρ, w, ?_, .refl s, found_all (h2 _)⟩
                  simp [Instr.lookup, ht.map w hd, conc, s.map hb, hck, hf', h1, found_ok]
                · trivial
              · trivial
            · trivial
          · trivial
        · trivial
      · trivial
    · trivial
  · trivial
end
end Go.Ev
namespace Go.Ev
section
variable {P : Program} {G : Nat} {ρ : Map} {h : AH} {w : World} {t : TypeId} {ty : PT ATy}

theorem keyThatStays_ok {k k' : AV} (hk : keyEq k k' = some true) : (Instr.keyThatStays (conc ρ k') (conc ρ k)).run P w = .ok (conc ρ k) w := by
  have hs : ∀ n, Instr.sameBits n (conc ρ k') (conc ρ k) = true := by
    intro n
    rcases keyEq_some hk with ⟨i, x, y, rfl, rfl, hb⟩ | ⟨x, y, rfl, rfl, hb⟩
    · have : x = y := by simpa using hb.symm
      subst this
      cases n <;> simp [Instr.sameBits, conc]
    · have : x = y := by simpa using hb.symm
      subst this
      have e := bytes_beq x x
      cases n <;> simp [Instr.sameBits, conc, e]
  simp [Instr.keyThatStays, hs]
theorem setAt_ok (k v : AV) : ∀ (i : Nat) (es : List (AV × AV × Nat)), concE ρ (setAt i k v es) = (concE ρ es).modify i fun e => { e with key := conc ρ k, val := conc ρ v }
  | _, [] => by simp [setAt, concE]
  | 0, (k', v', n) :: es => by simp [setAt, concE]
  | i + 1, (k', v', n) :: es => by
    have := setAt_ok k v i es
    simp only [setAt, concE, List.map_cons, List.modify_succ_cons] at this ⊢
    rw [this]
theorem setAt_mem {k v : AV} : ∀ {i : Nat} {es : List (AV × AV × Nat)} {e : AV × AV × Nat}, e ∈ setAt i k v es → e ∈ es ∨ (e.1 = k ∧ e.2.1 = v)
  | _, [], e, h => by simp [setAt] at h
  | 0, (k', v', n) :: es, e, h => by
    rcases List.mem_cons.1 h with rfl | h
    · exact .inr ⟨rfl, rfl⟩
    · exact .inl (List.mem_cons_of_mem _ h)
  | i + 1, (k', v', n) :: es, e, h => by
    rcases List.mem_cons.1 h with rfl | h
    · exact .inl List.mem_cons_self
    · exact (setAt_mem h).imp (List.mem_cons_of_mem _) id

theorem map_eraseIdx {α β : Type} (f : α → β) : ∀ (i : Nat) (l : List α), (l.eraseIdx i).map f = (l.map f).eraseIdx i
  | _, [] => by simp
  | 0, a :: l => rfl
  | i + 1, a :: l => by simp [List.eraseIdx_cons_succ, map_eraseIdx f i l]
/-- A map is laid anew. -/
theorem Step.map (s : Sim G ρ h w) {b : Nat} {es es' : List (AV × AV × Nat)} {ck ck' : Nat} (hb : h.t.get b = some (.map es ck)) (hlo : allE (fun b => Nat.blt b h.next) es') :
    (Go.setObj (ρ b).blk (.map (concE ρ es').toArray ck')).run P w = .ok () { w with heap := w.heap.setIfInBounds (ρ b).blk (.map (concE ρ es').toArray ck') } ∧
    Step G ρ h w ρ (h.set b (.map es' ck')) { w with heap := w.heap.setIfInBounds (ρ b).blk (.map (concE ρ es').toArray ck') } := by
  obtain ⟨_, _, h1, h2⟩ := s.blk b _ hb
  exact ⟨run_setObj h2 trivial, Step.setObj s hb id (ab := .map es' ck') hlo h1 ⟨h1, heap_set_self h2⟩⟩

variable (hT : ∀ t a, ty.get t = some a → TyIs P t a)
include hT
theorem evMapUpdate_ok (s : Sim G ρ h w) {a : ATy} (ht : TyIs P t a) {x k v : AV} (hk : k.lo h.next = true) (hv : v.lo h.next = true) :
    UOk P G ρ h w (Instr.mapUpdate t (conc ρ x) (conc ρ k) (conc ρ v)) (evMapUpdate ty a x k v h) := by
  unfold evMapUpdate
  split
  · rename_i kt et hd
    split
    · rename_i ak hak
      rw [cnd_eq]
      split
      · rename_i hp
        have hkt := plainKey_ok (hT _ _ hak) hp w
        have hck := run_checkKey (ρ := ρ) hkt false 9999
        split
        · rename_i b
          split
          · rename_i es ck hb
            have hm := s.map (P := P) hb
            split
            · rename_i i v0 hf
              rw [forceL_eq]
              have hf' := run_findKey (ρ := ρ) hkt hf
              obtain ⟨k', n, h1, h2⟩ := findK_get hf
              have hlo : allE (fun b => Nat.blt b h.next) (setAt i k v es) := fun e he => by
                rcases setAt_mem he with he | ⟨e1, e2⟩
                · exact s.mapLo hb e he
                · rw [e1, e2]; exact ⟨hk, hv⟩
              obtain ⟨g1, g2⟩ := Step.map (P := P) (ck' := ck) s hb hlo
              refine ⟨ρ, _, ?_, g2⟩
              rw [setAt_ok] at g1
              have hold : ((((concE ρ es).toArray[i]?).map (·.key)).getD (conc ρ k)) = conc ρ k' := by
                simp [concE, h1]
              have hmod : ((concE ρ es).toArray.modify i fun e => { e with key := conc ρ k, val := conc ρ v }) = ((concE ρ es).modify i fun e => { e with key := conc ρ k, val := conc ρ v }).toArray := by simp
              simp only [Instr.mapUpdate, Sem.run_bind, ht.map w hd, Result.andThen_ok, conc, hm, hck, hf', Option.map_some, hold, keyThatStays_ok h2, hmod]
              rw [g1, setAt_ok]
            · rename_i hf
              rw [forceL_eq, forceN_eq]
              have hf' := run_findKey (ρ := ρ) hkt hf
              have hlo : allE (fun b => Nat.blt b h.next) (es ++ [(k, v, ck)]) := fun e he => by
                rcases List.mem_append.1 he with he | he
                · exact s.mapLo hb e he
                · have : e = (k, v, ck) := by simpa using he
                  subst this
                  exact ⟨hk, hv⟩
              obtain ⟨g1, g2⟩ := Step.map (P := P) (ck' := ck + 1) s hb hlo
              refine ⟨ρ, _, ?_, g2⟩
              have hpush : (concE ρ es).toArray.push { key := conc ρ k, val := conc ρ v, born := ck } = (concE ρ (es ++ [(k, v, ck)])).toArray := by simp [concE]
              simp only [Instr.mapUpdate, Sem.run_bind, ht.map w hd, Result.andThen_ok, conc, hm, hck, hf', Option.map_none, hpush, g1]
            · trivial
          · trivial
        · trivial
      · trivial
    · trivial
  · trivial

theorem evDelete_ok (s : Sim G ρ h w) {a : ATy} {ts : Array TypeId} {ty2 : TypeId} (ht : TyIs P t a) (hts : ts[0]? = some t) {x k : AV} :
    VOk P G ρ h w (Builtin.delete_ ts ty2 #[conc ρ x, conc ρ k]) (evDelete ty a x k h) := by
  unfold evDelete
  split
  · rename_i kt et hd
    split
    · rename_i ak hak
      rw [cnd_eq]
      split
      · rename_i hp
        have hkt := plainKey_ok (hT _ _ hak) hp w
        have hck := fun e => run_checkKey (ρ := ρ) hkt e 9999
        split
        · refine ⟨ρ, w, ?_, .refl s, rfl⟩
          simp [Builtin.delete_, hts, ht.map w hd, conc, hck, Ev.concL]
        · rename_i b
          split
          · rename_i es ck hb
            have hm := s.map (P := P) hb
            split
            · rename_i i v0 hf
              have hf' := run_findKey (ρ := ρ) hkt hf
              have hlo : allE (fun b => Nat.blt b h.next) (es.eraseIdx i) := fun e he => s.mapLo hb e (List.mem_of_mem_eraseIdx he)
              obtain ⟨g1, g2⟩ := Step.map (P := P) (ck' := ck) s hb hlo
              refine ⟨ρ, _, ?_, g2, rfl⟩
              have her : (concE ρ es).eraseIdx i = concE ρ (es.eraseIdx i) := (map_eraseIdx _ i es).symm
              simp [Builtin.delete_, hts, ht.map w hd, conc, hm, hck, hf', her, g1, Ev.concL]
            · rename_i hf
              have hf' := run_findKey (ρ := ρ) hkt hf
              obtain ⟨_, _, h1, h2⟩ := s.blk b _ hb
              have g1 : (Go.setObj (ρ b).blk (.map (concE ρ es).toArray ck)).run P w = .ok () w := by
                rw [run_setObj h2 trivial]
                congr 1
                have : w.heap.setIfInBounds (ρ b).blk (.map (concE ρ es).toArray ck) = w.heap := by
                  apply Array.ext_getElem?
                  intro i
                  by_cases e : (ρ b).blk = i
                  · subst e; rw [heap_set_self h2, h2]
                  · rw [Array.getElem?_setIfInBounds_ne e]
                rw [this]
              refine ⟨ρ, w, ?_, .refl s, rfl⟩
              simp [Builtin.delete_, hts, ht.map w hd, conc, hm, hck, hf', g1, Ev.concL]
            · trivial
          · trivial
        · trivial
      · trivial
    · trivial
  · trivial

/-! ### Iterators -/
omit hT in
theorem Step.newObj (s : Sim G ρ h w) {ab : ABlock} {o : Obj} (hab : ab.Lo h.next) (hr : blockRel ρ ⟨w.heap.size, 0, 0, none⟩ { w with heap := w.heap.push o } ab) :
    Step G ρ h w (ρ.upd h.next ⟨w.heap.size, 0, 0, none⟩) (h.add ab) { w with heap := w.heap.push o } := Step.add s hab hr
omit hT in
theorem newP_ok (s : Sim G ρ h w) {ab : ABlock} {o : Obj} (hab : ab.Lo h.next) (hr : blockRel ρ ⟨w.heap.size, 0, 0, none⟩ { w with heap := w.heap.push o } ab) {x : Sem Value}
    (hx : x.run P w = .ok (.pointer (some ⟨w.heap.size, 0, none⟩)) { w with heap := w.heap.push o }) : VOk P G ρ h w x (R.newP h (h.add ab)) := by
  unfold R.newP
  rw [forceN_eq]
  refine ⟨_, _, ?_, Step.newObj s hab hr, blt_iff.2 (Nat.lt_succ_self h.next)⟩
  rw [hx]
  simp [conc, Map.upd_self, Loc.at]
omit hT in
theorem newM_ok (s : Sim G ρ h w) {x : Sem Value} (hx : x.run P w = .ok (.map (some w.heap.size)) { w with heap := w.heap.push (.map #[] 0) }) : VOk P G ρ h w x (R.newM h (h.add (.map [] 0))) := by
  unfold R.newM
  rw [forceN_eq]
  refine ⟨_, _, ?_, Step.newObj s (ab := .map [] 0) (o := .map #[] 0) (fun e he => by cases he) ⟨rfl, by simp [concE]⟩, blt_iff.2 (Nat.lt_succ_self h.next)⟩
  rw [hx]
  simp [conc, Map.upd_self]
omit hT in
theorem evRange_ok (s : Sim G ρ h w) {a : ATy} (ht : TyIs P t a) {x : AV} (hx : x.lo h.next = true) : VOk P G ρ h w (Instr.range t (conc ρ x)) (evRange a x h) := by
  unfold evRange
  split
  · rename_i str hd
    refine newP_ok s (ab := .strIter str 0) (o := .stringIter ⟨str.toArray⟩ 0) trivial ⟨rfl, by simp⟩ ?_
    simp [Instr.range, ht.str w hd, conc]
  · rename_i hd
    refine newP_ok s (ab := .mapIter none 0 [] 0) (o := .mapIter none 0 #[] 0) (fun b e => by cases e) ⟨rfl, by simp⟩ ?_
    simp [Instr.range, ht.map w hd, conc]
  · rename_i b hd
    split
    · rename_i es ck hb
      refine newP_ok s (ab := .mapIter (some b) ck [] ck) (o := .mapIter (some (ρ b).blk) ck #[] ck) (fun c e => by cases e; exact hx) ⟨rfl, by simp⟩ ?_
      simp [Instr.range, ht.map w hd, conc, s.map hb]
    · trivial
  · trivial
end
end Go.Ev
namespace Go.Ev
section
variable {P : Program} {G : Nat} {ρ : Map} {h : AH} {w : World} {t : TypeId} {ty : PT ATy}

theorem decode_ascii {s : List UInt8} {pos : Nat} {c : UInt8} (hc : s[pos]? = some c) (hlt : c.toNat < 128) : Utf8.decode ⟨s.toArray⟩ pos = (c.toNat, 1) := by
  have hp := (List.getElem?_eq_some_iff.1 hc).1
  have hv := (List.getElem?_eq_some_iff.1 hc).2
  have e : (⟨s.toArray⟩ : ByteArray).get! (pos + 0) = c := by
    show (s.toArray)[pos + 0]! = c
    rw [getElem!_pos s.toArray (pos + 0) (by simpa using hp)]
    simpa using hv
  unfold Utf8.decode
  simp only [e]
  rw [if_pos (by simpa using hlt)]

theorem memN_eq (n : Nat) : ∀ l : List Nat, memN n l = l.contains n
  | [] => rfl
  | m :: l => by
    show cnd (Nat.beq n m) true (memN n l) = _
    rw [cnd_eq, memN_eq n l, beq_nat, List.contains_cons]
    by_cases e : n = m <;> simp [e]
theorem leftOf_eq (seen : List Nat) : ∀ es : List (AV × AV × Nat), leftOf seen es = es.filter fun e => !seen.contains e.2.2
  | [] => rfl
  | e :: es => by
    unfold leftOf
    rw [cnd_eq, memN_eq, leftOf_eq seen es, List.filter_cons]
    cases seen.contains e.2.2 <;> rfl
theorem allBelow_iff {n : Nat} : ∀ {es : List (AV × AV × Nat)}, allBelow n es = true ↔ ∀ e ∈ es, e.2.2 < n
  | [] => by simp [allBelow]
  | e :: es => by
    unfold allBelow
    rw [cnd_eq]
    by_cases h : e.2.2 < n
    · rw [if_pos (blt_iff.2 h), allBelow_iff]; simp [h]
    · rw [if_neg (fun c => h (blt_iff.1 c))]; simp [h]
theorem concE_filter (p : Nat → Bool) (es : List (AV × AV × Nat)) : (concE ρ es).filter (fun e => p e.born) = concE ρ (es.filter fun e => p e.2.2) := by
  unfold concE
  rw [List.filter_map]
  rfl

/-- What the model does at the next entry, its candidates being 'l'. -/
theorem run_next_map (s : Sim G ρ h w) {r m : Nat} {since last : Nat} {seen : List Nat} {es : List (AV × AV × Nat)} {ck ty2 : Nat} (hr : h.t.get r = some (.mapIter (some m) since seen last)) (hm : h.t.get m = some (.map es ck))
    (hc : (Bool.not (seen.isEmpty) && Bool.not (es.isEmpty) && es.all (fun e => Nat.ble last e.2.2)) = false) (hb : ∀ e ∈ leftOf seen es, e.2.2 < since) :
    (leftOf seen es = [] → (Instr.next (conc ρ (.ptr r 0)) false ty2).run P w = .ok (.tuple #[.bool false]) w) ∧
    (leftOf seen es ≠ [] → ∃ e w1, e ∈ leftOf seen es ∧ (w1 = w ∨ w1 = { w with drawn := w.drawn + 1 }) ∧ (Instr.next (conc ρ (.ptr r 0)) false ty2).run P w =
      ((Go.setObj (ρ r).blk (.mapIter (some (ρ m).blk) since (seen ++ [e.2.2]).toArray ck)).run P w1).andThen fun _ w' => .ok (.tuple #[.bool true, conc ρ e.1, conc ρ e.2.1]) w') := by
  obtain ⟨_, _, r1, r2⟩ := s.blk r _ hr
  have hat : (ρ r).at 0 = ⟨(ρ r).blk, 0, none⟩ := by simp [Loc.at, r1, s.spot r (.inr ⟨_, hr⟩)]
  have g1 : (getObj (ρ r).blk).run P w = .ok (.mapIter (some (ρ m).blk) since seen.toArray last) w := run_getObj r2 trivial
  have g2 := s.map (P := P) hm
  have hcond : (!seen.toArray.isEmpty && !(concE ρ es).toArray.isEmpty && (concE ρ es).toArray.all (fun e => decide (e.born ≥ last))) = false := by
    rw [← hc]
    have e1 : (concE ρ es).isEmpty = es.isEmpty := by cases es <;> rfl
    have e2 : (concE ρ es).all (fun e => decide (e.born ≥ last)) = es.all (fun e => Nat.ble last e.2.2) := by
      unfold concE
      rw [List.all_map]
      congr 1
      funext e
      show decide (e.2.2 ≥ last) = Nat.ble last e.2.2
      by_cases c : last ≤ e.2.2
      · rw [ble_iff.2 c]; exact decide_eq_true c
      · rw [Bool.eq_false_iff.2 fun e => c (ble_iff.1 e)]; exact decide_eq_false c
    simp [e1, e2]
  have hleft : (concE ρ es).toArray.filter (fun e => !seen.toArray.contains e.born) = (concE ρ (leftOf seen es)).toArray := by
    rw [leftOf_eq, ← concE_filter (ρ := ρ) (fun b => !seen.contains b)]
    simp
  have hold : (concE ρ (leftOf seen es)).toArray.filter (fun e => decide (e.born < since)) = (concE ρ (leftOf seen es)).toArray := by
    have : (concE ρ (leftOf seen es)).filter (fun e => decide (e.born < since)) = concE ρ (leftOf seen es) := by
      rw [List.filter_eq_self]
      intro e he
      obtain ⟨x, hx, rfl⟩ := List.mem_map.1 he
      exact decide_eq_true (hb x hx)
    simp [this]
  have hnew : (concE ρ (leftOf seen es)).toArray.filter (fun e => decide (e.born ≥ since)) = #[] := by
    have : (concE ρ (leftOf seen es)).filter (fun e => decide (e.born ≥ since)) = [] := by
      rw [List.filter_eq_nil_iff]
      intro e he
      obtain ⟨x, hx, rfl⟩ := List.mem_map.1 he
      have := hb x hx
      simp
      omega
    simp [this]
  constructor
  · intro h0
    rw [h0] at hleft hold hnew
    have e0 : (concE ρ ([] : List (AV × AV × Nat))).toArray = #[] := rfl
    rw [e0] at hleft hold hnew
    simp only [Instr.next, conc, hat, Sem.run_bind, g1, Result.andThen_ok, g2, hcond, Bool.false_eq_true, if_false, hleft, hold, hnew]
    simp [choose, Sem.run, Question.forced]
  · intro h0
    have hne : (concE ρ (leftOf seen es)).isEmpty = false := by
      cases e : leftOf seen es with
      | nil => exact absurd e h0
      | cons x l => rfl
    have hcand : ((if (concE ρ (leftOf seen es)).toArray.isEmpty = true then #[none] else #[]) ++ ((concE ρ (leftOf seen es)).toArray ++ #[]).map some : Array (Option MapEntry)) = ((concE ρ (leftOf seen es)).map some).toArray := by
      simp [hne]
    have hpos : 0 < (leftOf seen es).length := by
      cases e : leftOf seen es with
      | nil => exact absurd e h0
      | cons x l => simp
    have hsz : (((concE ρ (leftOf seen es)).map some).toArray).size = (leftOf seen es).length := by simp [concE]
    let q : Question := .mapNext (leftOf seen es).length
    obtain ⟨k, w1, hk, hw1, hch⟩ : ∃ k w1, k < (leftOf seen es).length ∧ (w1 = w ∨ w1 = { w with drawn := w.drawn + 1 }) ∧ (choose q).run P w = .ok k w1 := by
      rw [run_choose]
      by_cases hf : q.forced = true
      · exact ⟨0, w, hpos, .inl rfl, by rw [if_pos hf]⟩
      · exact ⟨_, _, Nat.mod_lt _ hpos, .inr rfl, by rw [if_neg hf]; rfl⟩
    have hek : ∃ e, (leftOf seen es)[k]? = some e := ⟨_, List.getElem?_eq_getElem hk⟩
    obtain ⟨e, he⟩ := hek
    refine ⟨e, w1, List.mem_of_getElem? he, hw1, ?_⟩
    have hget : (((concE ρ (leftOf seen es)).map some).toArray)[k]? = some (some { key := conc ρ e.1, val := conc ρ e.2.1, born := e.2.2 }) := by
      simp [concE, he]
    have hpush : seen.toArray.push e.2.2 = (seen ++ [e.2.2]).toArray := by simp
    simp only [Instr.next, conc, hat, Sem.run_bind, g1, Result.andThen_ok, g2, hcond, Bool.false_eq_true, if_false, hleft, hold, hnew, hcand, hsz]
    have hch' : (choose (.mapNext (leftOf seen es).length)).run P w = .ok k w1 := hch
    simp only [hch', Result.andThen_ok, hget, hpush, Sem.run_bind, Sem.run_pure]

theorem Step.of_draw (s : Sim G ρ h w) {w1 : World} (hw : w1 = w ∨ w1 = { w with drawn := w.drawn + 1 }) : Step G ρ h w ρ h w1 := by
  rcases hw with rfl | rfl
  · exact .refl s
  · exact .drew s

theorem nextMap_ok (s : Sim G ρ h w) {r m : Nat} {since last : Nat} {seen : List Nat} {es : List (AV × AV × Nat)} {ck ty2 : Nat} (hr : h.t.get r = some (.mapIter (some m) since seen last)) (hm : h.t.get m = some (.map es ck)) :
    VOk P G ρ h w (Instr.next (conc ρ (.ptr r 0)) false ty2) (nextMap r m since seen last es ck h) := by
  unfold nextMap
  rw [cnd_eq]
  split
  · trivial
  · rename_i hc
    have hc := Bool.eq_false_iff.2 hc
    have hmlt : Nat.blt m h.next = true := (s.blk r _ hr).2.1 m rfl
    have hmem : ∀ e ∈ leftOf seen es, e ∈ es := fun e he => by rw [leftOf_eq] at he; exact (List.mem_filter.1 he).1
    -- the step that lays the iterator anew
    have step : ∀ (e : AV × AV × Nat) (w1 : World), e ∈ leftOf seen es → (w1 = w ∨ w1 = { w with drawn := w.drawn + 1 }) →
        ∃ w', (Go.setObj (ρ r).blk (.mapIter (some (ρ m).blk) since (seen ++ [e.2.2]).toArray ck)).run P w1 = .ok () w' ∧ Step G ρ h w ρ (h.set r (.mapIter (some m) since (seen ++ [e.2.2]) ck)) w' := by
      intro e w1 _ hw1
      have st := Step.of_draw s hw1
      obtain ⟨_, _, r1, r2⟩ := st.sim.blk r _ hr
      exact ⟨_, run_setObj r2 trivial, st.trans (Step.setObj st.sim hr id (ab := .mapIter (some m) since (seen ++ [e.2.2]) ck) (fun b e => by cases e; exact hmlt) r1 ⟨r1, heap_set_self r2⟩)⟩
    split
    · rename_i hl
      obtain ⟨h1, _⟩ := run_next_map (P := P) (ty2 := ty2) s hr hm hc (by rw [hl]; intro e he; cases he)
      exact ⟨ρ, w, h1 hl, .refl s, rfl⟩
    · rename_i e hl
      rw [cnd_eq]
      split
      · rename_i hlt
        obtain ⟨_, h2⟩ := run_next_map (P := P) (ty2 := ty2) s hr hm hc (by rw [hl]; intro x hx; rw [List.mem_singleton.1 hx]; exact blt_iff.1 hlt)
        obtain ⟨e', w1, he', hw1, hrun⟩ := h2 (by rw [hl]; simp)
        obtain ⟨w', g1, g2⟩ := step e' w1 he' hw1
        rw [g1] at hrun
        have : e' = e := by rw [hl] at he'; exact List.mem_singleton.1 he'
        subst this
        have hlo := s.mapLo hm e' (hmem e' he')
        exact ⟨ρ, w', hrun, g2, by simp [AV.all, allL]; exact ⟨hlo.1, hlo.2⟩⟩
      · trivial
    · rename_i hn1 hn2
      rw [cnd_eq]
      split
      · rename_i hall
        obtain ⟨_, h2⟩ := run_next_map (P := P) (ty2 := ty2) s hr hm hc (allBelow_iff.1 hall)
        obtain ⟨e', w1, he', hw1, hrun⟩ := h2 hn1
        obtain ⟨w', g1, g2⟩ := step e' w1 he' hw1
        rw [g1] at hrun
        have hlo := s.mapLo hm e' (hmem e' he')
        exact ⟨_, List.mem_map.2 ⟨e', he', rfl⟩, ρ, w', hrun, g2, by simp [AV.all, allL]; exact ⟨hlo.1, hlo.2⟩⟩
      · trivial
theorem evNext_ok (s : Sim G ρ h w) (it : AV) (isString : Bool) (ty2 : TypeId) : VOk P G ρ h w (Instr.next (conc ρ it) isString ty2) (evNext it isString h) := by
  unfold evNext
  split
  · rename_i r
    split
    · rename_i str pos hr
      obtain ⟨_, _, r1, r2⟩ := s.blk r _ hr
      have hat : (ρ r).at 0 = ⟨(ρ r).blk, 0, none⟩ := by simp [Loc.at, r1, s.spot r (.inr ⟨_, hr⟩)]
      have g1 : (getObj (ρ r).blk).run P w = .ok (.stringIter ⟨str.toArray⟩ pos) w := run_getObj r2 trivial
      split
      · rename_i c hc
        rw [nth_eq] at hc
        rw [cnd_eq]
        split
        · rename_i hlt
          have hlt := blt_iff.1 hlt
          rw [forceN_eq]
          have hp := (List.getElem?_eq_some_iff.1 hc).1
          have hdec := decode_ascii hc hlt
          refine ⟨ρ, _, ?_, Step.setObj s hr id (ab := .strIter str (pos + 1)) (o := .stringIter ⟨str.toArray⟩ (pos + 1)) trivial r1 ⟨r1, heap_set_self r2⟩, rfl⟩
          have hsz : pos < (⟨str.toArray⟩ : ByteArray).size := by simpa [ByteArray.size] using hp
          have hso := run_setObj (P := P) (o' := .stringIter ⟨str.toArray⟩ (pos + 1)) r2 trivial
          simp only [Instr.next, conc, hat, Sem.run_bind, g1, Result.andThen_ok, hsz, if_true, hdec, hso, Sem.run_pure]
          rfl
        · trivial
      · rename_i hc
        rw [nth_eq] at hc
        refine ⟨ρ, w, ?_, .refl s, rfl⟩
        have hsz : ¬ pos < (⟨str.toArray⟩ : ByteArray).size := by
          have := List.getElem?_eq_none_iff.1 hc
          simpa [ByteArray.size] using this
        simp only [Instr.next, conc, hat, Sem.run_bind, g1, Result.andThen_ok, hsz, if_false, Sem.run_pure]
        rfl
    · rename_i a b c hr
      obtain ⟨_, _, r1, r2⟩ := s.blk r _ hr
      have hat : (ρ r).at 0 = ⟨(ρ r).blk, 0, none⟩ := by simp [Loc.at, r1, s.spot r (.inr ⟨_, hr⟩)]
      have g1 : (getObj (ρ r).blk).run P w = .ok (.mapIter none a b.toArray c) w := run_getObj r2 trivial
      refine ⟨ρ, w, ?_, .refl s, rfl⟩
      simp only [Instr.next, conc, hat, Sem.run_bind, g1, Result.andThen_ok, Sem.run_pure]
      rfl
    · rename_i m since seen last hr
      split
      · rename_i es ck hm
        exact nextMap_ok s hr hm
      · trivial
    · trivial
  · trivial

theorem lastOf_eq : ∀ l : List Nat, lastOf l = l.getLast?
  | [] => rfl
  | [a] => rfl
  | a :: b :: l => by
    show (match lastOf (b :: l) with | none => some a | some m => some m) = _
    rw [lastOf_eq (b :: l), List.getLast?_cons_cons]
    cases e : (b :: l).getLast? with
    | none => simp at e
    | some x => rfl
theorem findBorn_ok {n : Nat} : ∀ {es : List (AV × AV × Nat)} {k v : AV}, findBorn n es = some (k, v) → (concE ρ es).find? (fun e => e.born == n) = some { key := conc ρ k, val := conc ρ v, born := n } ∧ ∃ x ∈ es, x.1 = k ∧ x.2.1 = v
  | [], k, v, h => by cases h
  | e :: es, k, v, h => by
    unfold findBorn at h
    rw [cnd_eq, beq_nat] at h
    by_cases c : e.2.2 = n
    · rw [if_pos (decide_eq_true c)] at h
      cases h
      subst c
      exact ⟨by simp [concE], e, List.mem_cons_self, rfl, rfl⟩
    · rw [if_neg (by simpa using c)] at h
      obtain ⟨h1, x, h2, h3⟩ := findBorn_ok h
      refine ⟨?_, x, List.mem_cons_of_mem _ h2, h3⟩
      have : (e.2.2 == n) = false := by simpa using c
      simp only [concE, List.map_cons, List.find?_cons, this]
      exact h1
theorem evEntry_ok (s : Sim G ρ h w) (it : AV) : VOk P G ρ h w (Instr.entry (conc ρ it)) (evEntry it h) := by
  unfold evEntry
  split
  · rename_i r
    split
    · rename_i m since seen stepped hr
      split
      · rename_i es ck hm
        rw [cnd_eq]
        split
        · rename_i hck
          have hck := Nat.eq_of_beq_eq_true hck
          subst hck
          split
          · rename_i n hn
            split
            · rename_i k v hf
              rw [lastOf_eq] at hn
              obtain ⟨h1, x, hx, rfl, rfl⟩ := findBorn_ok (ρ := ρ) hf
              have hlo := s.mapLo hm x hx
              obtain ⟨_, _, r1, r2⟩ := s.blk r _ hr
              have hat : (ρ r).at 0 = ⟨(ρ r).blk, 0, none⟩ := by simp [Loc.at, r1, s.spot r (.inr ⟨_, hr⟩)]
              have g1 : (getObj (ρ r).blk).run P w = .ok (.mapIter (some (ρ m).blk) since seen.toArray ck) w := run_getObj r2 trivial
              have g2 := s.map (P := P) hm
              refine ⟨ρ, w, ?_, .refl s, by simp [AV.all, allL]; exact ⟨hlo.1, hlo.2⟩⟩
              have hb : seen.toArray.back? = some n := by simpa using hn
              have hfd : (concE ρ es).toArray.find? (fun e => e.born == n) = some { key := conc ρ x.1, val := conc ρ x.2.1, born := n } := by simpa using h1
              simp only [Instr.entry, conc, hat, Sem.run_bind, g1, Result.andThen_ok, hb, g2, bne_self_eq_false, Bool.false_eq_true, if_false, hfd, Sem.run_pure]
              rfl
            · trivial
          · trivial
        · trivial
      · trivial
    · trivial
  · trivial
end
end Go.Ev
