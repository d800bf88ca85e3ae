/- The entries: closed calls under awake. MADE BY PROGRAM (genaw.py). -/
import Derived.Test.YtggkgmmhblamfaaGreatDoorTEvM
import Derived.Test.YtggkgmmhblamfaaGreatDoorTTab
import Derived.KernelRfl
set_option linter.all false
namespace Go.Proofs
open Go.Ev
set_option maxRecDepth 1000000
noncomputable def Tryz.S0 : Summ := PT.put (some sItoa) .leaf 16
noncomputable def Tryz.Mvt : Memo := ⟨[(.agg [(.slice 10 0 3 3), (.slice 11 0 12 12), (.int .i64 0)])], [(10, (some (.cells [(.int .i64 1), (.int .i64 1), (.int .i64 1)] 0))), (11, (some (.cells [(.int .i64 9), (.int .i64 4), (.int .i64 7), (.int .i64 10), (.int .i64 1), (.int .i64 8), (.int .i64 11), (.int .i64 2), (.int .i64 5), (.int .i64 0), (.int .i64 3), (.int .i64 6)] 0)))], ⟨.norm, [(.bool true)], 12, [], []⟩⟩
theorem Tryz.Mvt_chk : chkMemo Tryz.ctx Tryz.S0 1000000 27 Tryz.Mvt = true := by kernel_rfl
noncomputable def Tryz.Mvu : Memo := ⟨[(.agg [.nils, .nils, (.int .i64 1)])], [], ⟨.norm, [(.bool true)], 10, [], []⟩⟩
theorem Tryz.Mvu_chk : chkMemo Tryz.ctx Tryz.S0 1000000 27 Tryz.Mvu = true := by kernel_rfl
noncomputable def Tryz.S1 : Summ := PT.put (some (memos 10 [Tryz.Mvt, Tryz.Mvu])) Tryz.S0 27
theorem Tryz.sum1 {Ω : Nat → Option Obj} (hC : CtxOk Tryz.prog Tryz.ctx) (h : SummOk Tryz.prog Ω Tryz.ctx Tryz.S0) : SummOk Tryz.prog Ω Tryz.ctx Tryz.S1 :=
  h.put (ms := [Tryz.Mvt, Tryz.Mvu]) fun m hm => by
    simp only [List.mem_cons, List.not_mem_nil, or_false] at hm
    rcases hm with rfl | rfl
    · exact memoOk_of_chk hC h 1000000 Tryz.Mvt_chk
    · exact memoOk_of_chk hC h 1000000 Tryz.Mvu_chk
noncomputable def Tryz.Mct : Memo := ⟨[(.agg [(.slice 10 0 3 3), (.slice 11 0 12 12), (.int .i64 0)])], [(10, (some (.cells [(.int .i64 1), (.int .i64 1), (.int .i64 1)] 0))), (11, (some (.cells [(.int .i64 9), (.int .i64 4), (.int .i64 7), (.int .i64 10), (.int .i64 1), (.int .i64 8), (.int .i64 11), (.int .i64 2), (.int .i64 5), (.int .i64 0), (.int .i64 3), (.int .i64 6)] 0)))], ⟨.norm, [(.int .i64 1)], 12, [], []⟩⟩
theorem Tryz.Mct_chk : chkMemo Tryz.ctx Tryz.S1 1000000 30 Tryz.Mct = true := by kernel_rfl
noncomputable def Tryz.Mcu : Memo := ⟨[(.agg [.nils, .nils, (.int .i64 1)])], [], ⟨.norm, [(.int .i64 1)], 10, [], []⟩⟩
theorem Tryz.Mcu_chk : chkMemo Tryz.ctx Tryz.S1 1000000 30 Tryz.Mcu = true := by kernel_rfl
noncomputable def Tryz.S2 : Summ := PT.put (some (memos 10 [Tryz.Mct, Tryz.Mcu])) Tryz.S1 30
theorem Tryz.sum2 {Ω : Nat → Option Obj} (hC : CtxOk Tryz.prog Tryz.ctx) (h : SummOk Tryz.prog Ω Tryz.ctx Tryz.S1) : SummOk Tryz.prog Ω Tryz.ctx Tryz.S2 :=
  h.put (ms := [Tryz.Mct, Tryz.Mcu]) fun m hm => by
    simp only [List.mem_cons, List.not_mem_nil, or_false] at hm
    rcases hm with rfl | rfl
    · exact memoOk_of_chk hC h 1000000 Tryz.Mct_chk
    · exact memoOk_of_chk hC h 1000000 Tryz.Mcu_chk
noncomputable def Tryz.Mat : Memo := ⟨[(.agg [(.slice 10 0 3 3), (.slice 11 0 12 12), (.int .i64 0)])], [(10, (some (.cells [(.int .i64 1), (.int .i64 1), (.int .i64 1)] 0))), (11, (some (.cells [(.int .i64 9), (.int .i64 4), (.int .i64 7), (.int .i64 10), (.int .i64 1), (.int .i64 8), (.int .i64 11), (.int .i64 2), (.int .i64 5), (.int .i64 0), (.int .i64 3), (.int .i64 6)] 0)))], ⟨.norm, [(.tup [(.slice 12 0 12 12), (.int .i64 3), (.int .i64 0)])], 13, [], [(12, (some (.cells [(.int .i64 0), (.int .i64 1), (.int .i64 2), (.int .i64 1), (.int .i64 1), (.int .i64 2), (.int .i64 0), (.int .i64 2), (.int .i64 2), (.int .i64 0), (.int .i64 1), (.int .i64 0)] 0)))]⟩⟩
theorem Tryz.Mat_chk : chkMemo Tryz.ctx Tryz.S2 1000000 102 Tryz.Mat = true := by kernel_rfl
noncomputable def Tryz.Mau : Memo := ⟨[(.agg [.nils, .nils, (.int .i64 1)])], [], ⟨.norm, [(.tup [(.slice 10 0 0 0), (.int .i64 1), (.int .i64 0)])], 11, [], [(10, (some (.cells [] 0)))]⟩⟩
theorem Tryz.Mau_chk : chkMemo Tryz.ctx Tryz.S2 1000000 102 Tryz.Mau = true := by kernel_rfl
noncomputable def Tryz.S3 : Summ := PT.put (some (memos 10 [Tryz.Mat, Tryz.Mau])) Tryz.S2 102
theorem Tryz.sum3 {Ω : Nat → Option Obj} (hC : CtxOk Tryz.prog Tryz.ctx) (h : SummOk Tryz.prog Ω Tryz.ctx Tryz.S2) : SummOk Tryz.prog Ω Tryz.ctx Tryz.S3 :=
  h.put (ms := [Tryz.Mat, Tryz.Mau]) fun m hm => by
    simp only [List.mem_cons, List.not_mem_nil, or_false] at hm
    rcases hm with rfl | rfl
    · exact memoOk_of_chk hC h 1000000 Tryz.Mat_chk
    · exact memoOk_of_chk hC h 1000000 Tryz.Mau_chk
noncomputable def Tryz.Mmt : Memo := ⟨[(.agg [(.slice 10 0 3 3), (.slice 11 0 12 12), (.int .i64 0)])], [(10, (some (.cells [(.int .i64 1), (.int .i64 1), (.int .i64 1)] 0))), (11, (some (.cells [(.int .i64 9), (.int .i64 4), (.int .i64 7), (.int .i64 10), (.int .i64 1), (.int .i64 8), (.int .i64 11), (.int .i64 2), (.int .i64 5), (.int .i64 0), (.int .i64 3), (.int .i64 6)] 0)))], ⟨.norm, [(.tup [(.slice 12 0 3 3), (.int .i64 0)])], 16, [], [(12, (some (.cells [(.slice 13 0 3 3), (.slice 14 0 3 3), (.slice 15 0 3 3)] 0))), (13, (some (.cells [(.int .i64 (-1)), (.int .i64 2), (.int .i64 (-1))] 0))), (14, (some (.cells [(.int .i64 (-1)), (.int .i64 (-1)), (.int .i64 2)] 0))), (15, (some (.cells [(.int .i64 2), (.int .i64 (-1)), (.int .i64 (-1))] 0)))]⟩⟩
theorem Tryz.Mmt_chk : chkMemo Tryz.ctx Tryz.S3 1000000 101 Tryz.Mmt = true := by kernel_rfl
noncomputable def Tryz.Mmu : Memo := ⟨[(.agg [.nils, .nils, (.int .i64 1)])], [], ⟨.norm, [(.tup [(.slice 10 0 0 0), (.int .i64 0)])], 11, [], [(10, (some (.cells [] 0)))]⟩⟩
theorem Tryz.Mmu_chk : chkMemo Tryz.ctx Tryz.S3 1000000 101 Tryz.Mmu = true := by kernel_rfl
noncomputable def Tryz.S4 : Summ := PT.put (some (memos 10 [Tryz.Mmt, Tryz.Mmu])) Tryz.S3 101
theorem Tryz.sum4 {Ω : Nat → Option Obj} (hC : CtxOk Tryz.prog Tryz.ctx) (h : SummOk Tryz.prog Ω Tryz.ctx Tryz.S3) : SummOk Tryz.prog Ω Tryz.ctx Tryz.S4 :=
  h.put (ms := [Tryz.Mmt, Tryz.Mmu]) fun m hm => by
    simp only [List.mem_cons, List.not_mem_nil, or_false] at hm
    rcases hm with rfl | rfl
    · exact memoOk_of_chk hC h 1000000 Tryz.Mmt_chk
    · exact memoOk_of_chk hC h 1000000 Tryz.Mmu_chk
noncomputable def Tryz.Mst : Memo := ⟨[(.slice 10 0 3 3)], [(10, (some (.cells [(.slice 11 0 3 3), (.slice 12 0 3 3), (.slice 13 0 3 3)] 0))), (11, (some (.cells [(.int .i64 (-1)), (.int .i64 2), (.int .i64 (-1))] 0))), (12, (some (.cells [(.int .i64 (-1)), (.int .i64 (-1)), (.int .i64 2)] 0))), (13, (some (.cells [(.int .i64 2), (.int .i64 (-1)), (.int .i64 (-1))] 0)))], ⟨.norm, [(.tup [(.slice 14 0 3 3), (.int .i64 0)])], 15, [], [(14, (some (.cells [(.int .i64 1), (.int .i64 3), (.int .i64 0)] 0)))]⟩⟩
theorem Tryz.Mst_chk : chkMemo Tryz.ctx Tryz.S4 1000000 103 Tryz.Mst = true := by kernel_rfl
noncomputable def Tryz.Msu : Memo := ⟨[(.slice 10 0 0 0)], [(10, (some (.cells [] 0)))], ⟨.norm, [(.tup [(.slice 11 0 0 0), (.int .i64 0)])], 12, [], [(11, (some (.cells [] 0)))]⟩⟩
theorem Tryz.Msu_chk : chkMemo Tryz.ctx Tryz.S4 1000000 103 Tryz.Msu = true := by kernel_rfl
noncomputable def Tryz.S5 : Summ := PT.put (some (memos 10 [Tryz.Mst, Tryz.Msu])) Tryz.S4 103
theorem Tryz.sum5 {Ω : Nat → Option Obj} (hC : CtxOk Tryz.prog Tryz.ctx) (h : SummOk Tryz.prog Ω Tryz.ctx Tryz.S4) : SummOk Tryz.prog Ω Tryz.ctx Tryz.S5 :=
  h.put (ms := [Tryz.Mst, Tryz.Msu]) fun m hm => by
    simp only [List.mem_cons, List.not_mem_nil, or_false] at hm
    rcases hm with rfl | rfl
    · exact memoOk_of_chk hC h 1000000 Tryz.Mst_chk
    · exact memoOk_of_chk hC h 1000000 Tryz.Msu_chk
noncomputable def Tryz.Mit : Memo := ⟨[(.agg [(.slice 10 0 3 3), (.slice 11 0 12 12), (.int .i64 0)])], [(10, (some (.cells [(.int .i64 1), (.int .i64 1), (.int .i64 1)] 0))), (11, (some (.cells [(.int .i64 9), (.int .i64 4), (.int .i64 7), (.int .i64 10), (.int .i64 1), (.int .i64 8), (.int .i64 11), (.int .i64 2), (.int .i64 5), (.int .i64 0), (.int .i64 3), (.int .i64 6)] 0)))], ⟨.norm, [(.tup [(.slice 12 0 3 3), (.int .i64 0)])], 13, [], [(12, (some (.cells [(.int .i64 1), (.int .i64 3), (.int .i64 0)] 0)))]⟩⟩
theorem Tryz.Mit_chk : chkMemo Tryz.ctx Tryz.S5 1000000 59 Tryz.Mit = true := by kernel_rfl
noncomputable def Tryz.Miu : Memo := ⟨[(.agg [.nils, .nils, (.int .i64 1)])], [], ⟨.norm, [(.tup [(.slice 10 0 1 1), (.int .i64 0)])], 11, [], [(10, (some (.cells [(.int .i64 0)] 0)))]⟩⟩
theorem Tryz.Miu_chk : chkMemo Tryz.ctx Tryz.S5 1000000 59 Tryz.Miu = true := by kernel_rfl
noncomputable def Tryz.S6 : Summ := PT.put (some (memos 10 [Tryz.Mit, Tryz.Miu])) Tryz.S5 59
theorem Tryz.sum6 {Ω : Nat → Option Obj} (hC : CtxOk Tryz.prog Tryz.ctx) (h : SummOk Tryz.prog Ω Tryz.ctx Tryz.S5) : SummOk Tryz.prog Ω Tryz.ctx Tryz.S6 :=
  h.put (ms := [Tryz.Mit, Tryz.Miu]) fun m hm => by
    simp only [List.mem_cons, List.not_mem_nil, or_false] at hm
    rcases hm with rfl | rfl
    · exact memoOk_of_chk hC h 1000000 Tryz.Mit_chk
    · exact memoOk_of_chk hC h 1000000 Tryz.Miu_chk
noncomputable def Tryz.Mf2t : Memo := ⟨[(.agg [(.slice 10 0 3 3), (.slice 11 0 12 12), (.int .i64 0)]), (.int .i64 2)], [(10, (some (.cells [(.int .i64 1), (.int .i64 1), (.int .i64 1)] 0))), (11, (some (.cells [(.int .i64 9), (.int .i64 4), (.int .i64 7), (.int .i64 10), (.int .i64 1), (.int .i64 8), (.int .i64 11), (.int .i64 2), (.int .i64 5), (.int .i64 0), (.int .i64 3), (.int .i64 6)] 0)))], ⟨.norm, [(.tup [(.int .i64 2), (.int .i64 0)])], 12, [], []⟩⟩
theorem Tryz.Mf2t_chk : chkMemo Tryz.ctx Tryz.S6 1000000 33 Tryz.Mf2t = true := by kernel_rfl
noncomputable def Tryz.Mf3t : Memo := ⟨[(.agg [(.slice 10 0 3 3), (.slice 11 0 12 12), (.int .i64 0)]), (.int .i64 3)], [(10, (some (.cells [(.int .i64 1), (.int .i64 1), (.int .i64 1)] 0))), (11, (some (.cells [(.int .i64 9), (.int .i64 4), (.int .i64 7), (.int .i64 10), (.int .i64 1), (.int .i64 8), (.int .i64 11), (.int .i64 2), (.int .i64 5), (.int .i64 0), (.int .i64 3), (.int .i64 6)] 0)))], ⟨.norm, [(.tup [(.int .i64 9), (.int .i64 0)])], 12, [], []⟩⟩
theorem Tryz.Mf3t_chk : chkMemo Tryz.ctx Tryz.S6 1000000 33 Tryz.Mf3t = true := by kernel_rfl
noncomputable def Tryz.Mf2u : Memo := ⟨[(.agg [.nils, .nils, (.int .i64 1)]), (.int .i64 2)], [], ⟨.norm, [(.tup [(.int .i64 2), (.int .i64 0)])], 10, [], []⟩⟩
theorem Tryz.Mf2u_chk : chkMemo Tryz.ctx Tryz.S6 1000000 33 Tryz.Mf2u = true := by kernel_rfl
noncomputable def Tryz.Mf3u : Memo := ⟨[(.agg [.nils, .nils, (.int .i64 1)]), (.int .i64 3)], [], ⟨.norm, [(.tup [(.int .i64 3), (.int .i64 0)])], 10, [], []⟩⟩
theorem Tryz.Mf3u_chk : chkMemo Tryz.ctx Tryz.S6 1000000 33 Tryz.Mf3u = true := by kernel_rfl
noncomputable def Tryz.S7 : Summ := PT.put (some (memos 10 [Tryz.Mf2t, Tryz.Mf3t, Tryz.Mf2u, Tryz.Mf3u])) Tryz.S6 33
theorem Tryz.sum7 {Ω : Nat → Option Obj} (hC : CtxOk Tryz.prog Tryz.ctx) (h : SummOk Tryz.prog Ω Tryz.ctx Tryz.S6) : SummOk Tryz.prog Ω Tryz.ctx Tryz.S7 :=
  h.put (ms := [Tryz.Mf2t, Tryz.Mf3t, Tryz.Mf2u, Tryz.Mf3u]) fun m hm => by
    simp only [List.mem_cons, List.not_mem_nil, or_false] at hm
    rcases hm with rfl | rfl | rfl | rfl
    · exact memoOk_of_chk hC h 1000000 Tryz.Mf2t_chk
    · exact memoOk_of_chk hC h 1000000 Tryz.Mf3t_chk
    · exact memoOk_of_chk hC h 1000000 Tryz.Mf2u_chk
    · exact memoOk_of_chk hC h 1000000 Tryz.Mf3u_chk
noncomputable def Tryz.Mlt : Memo := ⟨[(.agg [(.slice 10 0 3 3), (.slice 11 0 12 12), (.int .i64 0)])], [(10, (some (.cells [(.int .i64 1), (.int .i64 1), (.int .i64 1)] 0))), (11, (some (.cells [(.int .i64 9), (.int .i64 4), (.int .i64 7), (.int .i64 10), (.int .i64 1), (.int .i64 8), (.int .i64 11), (.int .i64 2), (.int .i64 5), (.int .i64 0), (.int .i64 3), (.int .i64 6)] 0)))], ⟨.norm, [(.slice 12 0 1 1)], 14, [], [(12, (some (.cells [(.slice 13 0 1 1)] 0))), (13, (some (.cells [(.int .i64 3)] 0)))]⟩⟩
theorem Tryz.Mlt_chk : chkMemo Tryz.ctx Tryz.S7 1000000 57 Tryz.Mlt = true := by kernel_rfl
noncomputable def Tryz.Mlu : Memo := ⟨[(.agg [.nils, .nils, (.int .i64 1)])], [], ⟨.norm, [(.slice 10 0 1 1)], 12, [], [(10, (some (.cells [(.slice 11 0 1 1)] 0))), (11, (some (.cells [(.int .i64 0)] 0)))]⟩⟩
theorem Tryz.Mlu_chk : chkMemo Tryz.ctx Tryz.S7 1000000 57 Tryz.Mlu = true := by kernel_rfl
noncomputable def Tryz.S8 : Summ := PT.put (some (memos 10 [Tryz.Mlt, Tryz.Mlu])) Tryz.S7 57
theorem Tryz.sum8 {Ω : Nat → Option Obj} (hC : CtxOk Tryz.prog Tryz.ctx) (h : SummOk Tryz.prog Ω Tryz.ctx Tryz.S7) : SummOk Tryz.prog Ω Tryz.ctx Tryz.S8 :=
  h.put (ms := [Tryz.Mlt, Tryz.Mlu]) fun m hm => by
    simp only [List.mem_cons, List.not_mem_nil, or_false] at hm
    rcases hm with rfl | rfl
    · exact memoOk_of_chk hC h 1000000 Tryz.Mlt_chk
    · exact memoOk_of_chk hC h 1000000 Tryz.Mlu_chk
noncomputable def Tryz.Mnt : Memo := ⟨[(.agg [(.slice 10 0 3 3), (.slice 11 0 12 12), (.int .i64 0)])], [(10, (some (.cells [(.int .i64 1), (.int .i64 1), (.int .i64 1)] 0))), (11, (some (.cells [(.int .i64 9), (.int .i64 4), (.int .i64 7), (.int .i64 10), (.int .i64 1), (.int .i64 8), (.int .i64 11), (.int .i64 2), (.int .i64 5), (.int .i64 0), (.int .i64 3), (.int .i64 6)] 0)))], ⟨.norm, [(.str [])], 12, [], []⟩⟩
theorem Tryz.Mnt_chk : chkMemo Tryz.ctx Tryz.S8 1000000 31 Tryz.Mnt = true := by kernel_rfl
noncomputable def Tryz.Mnu : Memo := ⟨[(.agg [.nils, .nils, (.int .i64 1)])], [], ⟨.norm, [(.str [])], 10, [], []⟩⟩
theorem Tryz.Mnu_chk : chkMemo Tryz.ctx Tryz.S8 1000000 31 Tryz.Mnu = true := by kernel_rfl
noncomputable def Tryz.S9 : Summ := PT.put (some (memos 10 [Tryz.Mnt, Tryz.Mnu])) Tryz.S8 31
theorem Tryz.sum9 {Ω : Nat → Option Obj} (hC : CtxOk Tryz.prog Tryz.ctx) (h : SummOk Tryz.prog Ω Tryz.ctx Tryz.S8) : SummOk Tryz.prog Ω Tryz.ctx Tryz.S9 :=
  h.put (ms := [Tryz.Mnt, Tryz.Mnu]) fun m hm => by
    simp only [List.mem_cons, List.not_mem_nil, or_false] at hm
    rcases hm with rfl | rfl
    · exact memoOk_of_chk hC h 1000000 Tryz.Mnt_chk
    · exact memoOk_of_chk hC h 1000000 Tryz.Mnu_chk
noncomputable def Tryz.Mo : Memo := ⟨[(.agg [(.slice 10 0 3 3), (.slice 11 0 12 12), (.int .i64 0)])], [(10, (some (.cells [(.int .i64 1), (.int .i64 1), (.int .i64 1)] 0))), (11, (some (.cells [(.int .i64 9), (.int .i64 4), (.int .i64 7), (.int .i64 10), (.int .i64 1), (.int .i64 8), (.int .i64 11), (.int .i64 2), (.int .i64 5), (.int .i64 0), (.int .i64 3), (.int .i64 6)] 0)))], ⟨.norm, [(.slice 12 0 3 3)], 13, [], [(12, (some (.cells [(.int .i64 0), (.int .i64 1), (.int .i64 2)] 0)))]⟩⟩
theorem Tryz.Mo_chk : chkMemo Tryz.ctx Tryz.S9 1000000 117 Tryz.Mo = true := by kernel_rfl
noncomputable def Tryz.S10 : Summ := PT.put (some (memos 10 [Tryz.Mo])) Tryz.S9 117
theorem Tryz.sum10 {Ω : Nat → Option Obj} (hC : CtxOk Tryz.prog Tryz.ctx) (h : SummOk Tryz.prog Ω Tryz.ctx Tryz.S9) : SummOk Tryz.prog Ω Tryz.ctx Tryz.S10 :=
  h.put (ms := [Tryz.Mo]) fun m hm => by
    simp only [List.mem_cons, List.not_mem_nil, or_false] at hm
    subst hm
    exact memoOk_of_chk hC h 1000000 Tryz.Mo_chk
noncomputable def Tryz.Mb : Memo := ⟨[(.agg [(.slice 10 0 3 3), (.slice 11 0 12 12), (.int .i64 0)]), (.slice 12 0 3 3)], [(10, (some (.cells [(.int .i64 1), (.int .i64 1), (.int .i64 1)] 0))), (11, (some (.cells [(.int .i64 9), (.int .i64 4), (.int .i64 7), (.int .i64 10), (.int .i64 1), (.int .i64 8), (.int .i64 11), (.int .i64 2), (.int .i64 5), (.int .i64 0), (.int .i64 3), (.int .i64 6)] 0))), (12, (some (.cells [(.int .i64 0), (.int .i64 1), (.int .i64 2)] 0)))], ⟨.norm, [(.tup [(.agg [(.bool false), (.sliceU 13 0 3 2)]), (.int .i64 0)])], 14, [], [(13, (some (.cells [(.int .i64 (-7)), (.int .i64 1), (.int .i64 (-3)), (.int .i64 (-1)), (.int .i64 5), (.int .i64 (-1))] 186)))]⟩⟩
theorem Tryz.Mb_chk : chkMemo Tryz.ctx Tryz.S10 1000000 116 Tryz.Mb = true := by kernel_rfl
noncomputable def Tryz.S11 : Summ := PT.put (some (memos 10 [Tryz.Mb])) Tryz.S10 116
theorem Tryz.sum11 {Ω : Nat → Option Obj} (hC : CtxOk Tryz.prog Tryz.ctx) (h : SummOk Tryz.prog Ω Tryz.ctx Tryz.S10) : SummOk Tryz.prog Ω Tryz.ctx Tryz.S11 :=
  h.put (ms := [Tryz.Mb]) fun m hm => by
    simp only [List.mem_cons, List.not_mem_nil, or_false] at hm
    subst hm
    exact memoOk_of_chk hC h 1000000 Tryz.Mb_chk
noncomputable def Tryz.Mj : Memo := ⟨[(.agg [(.slice 10 0 3 3), (.slice 11 0 12 12), (.int .i64 0)])], [(10, (some (.cells [(.int .i64 1), (.int .i64 1), (.int .i64 1)] 0))), (11, (some (.cells [(.int .i64 9), (.int .i64 4), (.int .i64 7), (.int .i64 10), (.int .i64 1), (.int .i64 8), (.int .i64 11), (.int .i64 2), (.int .i64 5), (.int .i64 0), (.int .i64 3), (.int .i64 6)] 0)))], ⟨.norm, [(.tup [(.agg [(.bool false), (.slice 12 0 3 3)]), (.int .i64 0)])], 13, [], [(12, (some (.cells [(.int .i64 (-16)), (.int .i64 (-1)), (.int .i64 (-12)), (.int .i64 1), (.int .i64 (-4)), (.int .i64 1)] 0)))]⟩⟩
theorem Tryz.Mj_chk : chkMemo Tryz.ctx Tryz.S11 1000000 69 Tryz.Mj = true := by kernel_rfl
noncomputable def Tryz.S12 : Summ := PT.put (some (memos 10 [Tryz.Mj])) Tryz.S11 69
theorem Tryz.sum12 {Ω : Nat → Option Obj} (hC : CtxOk Tryz.prog Tryz.ctx) (h : SummOk Tryz.prog Ω Tryz.ctx Tryz.S11) : SummOk Tryz.prog Ω Tryz.ctx Tryz.S12 :=
  h.put (ms := [Tryz.Mj]) fun m hm => by
    simp only [List.mem_cons, List.not_mem_nil, or_false] at hm
    subst hm
    exact memoOk_of_chk hC h 1000000 Tryz.Mj_chk
noncomputable def Tryz.Mw10t : Memo := ⟨[(.agg [(.slice 10 0 3 3), (.slice 11 0 12 12), (.int .i64 0)]), (.agg [(.int .i64 1), (.int .i64 0), .nils, .nils])], [(10, (some (.cells [(.int .i64 1), (.int .i64 1), (.int .i64 1)] 0))), (11, (some (.cells [(.int .i64 9), (.int .i64 4), (.int .i64 7), (.int .i64 10), (.int .i64 1), (.int .i64 8), (.int .i64 11), (.int .i64 2), (.int .i64 5), (.int .i64 0), (.int .i64 3), (.int .i64 6)] 0)))], ⟨.norm, [(.tup [(.str [49]), (.int .i64 0)])], 12, [], []⟩⟩
theorem Tryz.Mw10t_chk : chkMemo Tryz.ctx Tryz.S12 1000000 13 Tryz.Mw10t = true := by kernel_rfl
noncomputable def Tryz.Mw20t : Memo := ⟨[(.agg [(.slice 10 0 3 3), (.slice 11 0 12 12), (.int .i64 0)]), (.agg [(.int .i64 2), (.int .i64 0), .nils, .nils])], [(10, (some (.cells [(.int .i64 1), (.int .i64 1), (.int .i64 1)] 0))), (11, (some (.cells [(.int .i64 9), (.int .i64 4), (.int .i64 7), (.int .i64 10), (.int .i64 1), (.int .i64 8), (.int .i64 11), (.int .i64 2), (.int .i64 5), (.int .i64 0), (.int .i64 3), (.int .i64 6)] 0)))], ⟨.norm, [(.tup [(.str []), (.int .i64 0)])], 12, [], []⟩⟩
theorem Tryz.Mw20t_chk : chkMemo Tryz.ctx Tryz.S12 1000000 13 Tryz.Mw20t = true := by kernel_rfl
noncomputable def Tryz.Mw32t : Memo := ⟨[(.agg [(.slice 10 0 3 3), (.slice 11 0 12 12), (.int .i64 0)]), (.agg [(.int .i64 3), (.int .i64 2), .nils, .nils])], [(10, (some (.cells [(.int .i64 1), (.int .i64 1), (.int .i64 1)] 0))), (11, (some (.cells [(.int .i64 9), (.int .i64 4), (.int .i64 7), (.int .i64 10), (.int .i64 1), (.int .i64 8), (.int .i64 11), (.int .i64 2), (.int .i64 5), (.int .i64 0), (.int .i64 3), (.int .i64 6)] 0)))], ⟨.norm, [(.tup [(.str [50]), (.int .i64 0)])], 12, [], []⟩⟩
theorem Tryz.Mw32t_chk : chkMemo Tryz.ctx Tryz.S12 1000000 13 Tryz.Mw32t = true := by kernel_rfl
noncomputable def Tryz.Mw33t : Memo := ⟨[(.agg [(.slice 10 0 3 3), (.slice 11 0 12 12), (.int .i64 0)]), (.agg [(.int .i64 3), (.int .i64 3), .nils, .nils])], [(10, (some (.cells [(.int .i64 1), (.int .i64 1), (.int .i64 1)] 0))), (11, (some (.cells [(.int .i64 9), (.int .i64 4), (.int .i64 7), (.int .i64 10), (.int .i64 1), (.int .i64 8), (.int .i64 11), (.int .i64 2), (.int .i64 5), (.int .i64 0), (.int .i64 3), (.int .i64 6)] 0)))], ⟨.norm, [(.tup [(.str [57]), (.int .i64 0)])], 12, [], []⟩⟩
theorem Tryz.Mw33t_chk : chkMemo Tryz.ctx Tryz.S12 1000000 13 Tryz.Mw33t = true := by kernel_rfl
noncomputable def Tryz.Mw10u : Memo := ⟨[(.agg [.nils, .nils, (.int .i64 1)]), (.agg [(.int .i64 1), (.int .i64 0), .nils, .nils])], [], ⟨.norm, [(.tup [(.str [49]), (.int .i64 0)])], 10, [], []⟩⟩
theorem Tryz.Mw10u_chk : chkMemo Tryz.ctx Tryz.S12 1000000 13 Tryz.Mw10u = true := by kernel_rfl
noncomputable def Tryz.Mw20u : Memo := ⟨[(.agg [.nils, .nils, (.int .i64 1)]), (.agg [(.int .i64 2), (.int .i64 0), .nils, .nils])], [], ⟨.norm, [(.tup [(.str []), (.int .i64 0)])], 10, [], []⟩⟩
theorem Tryz.Mw20u_chk : chkMemo Tryz.ctx Tryz.S12 1000000 13 Tryz.Mw20u = true := by kernel_rfl
noncomputable def Tryz.Mw32u : Memo := ⟨[(.agg [.nils, .nils, (.int .i64 1)]), (.agg [(.int .i64 3), (.int .i64 2), .nils, .nils])], [], ⟨.norm, [(.tup [(.str [50]), (.int .i64 0)])], 10, [], []⟩⟩
theorem Tryz.Mw32u_chk : chkMemo Tryz.ctx Tryz.S12 1000000 13 Tryz.Mw32u = true := by kernel_rfl
noncomputable def Tryz.Mw33u : Memo := ⟨[(.agg [.nils, .nils, (.int .i64 1)]), (.agg [(.int .i64 3), (.int .i64 3), .nils, .nils])], [], ⟨.norm, [(.tup [(.str [51]), (.int .i64 0)])], 10, [], []⟩⟩
theorem Tryz.Mw33u_chk : chkMemo Tryz.ctx Tryz.S12 1000000 13 Tryz.Mw33u = true := by kernel_rfl
noncomputable def Tryz.Mwj : Memo := ⟨[(.agg [(.slice 10 0 3 3), (.slice 11 0 12 12), (.int .i64 0)]), (.agg [(.int .i64 6), (.int .i64 0), .nils, .nils])], [(10, (some (.cells [(.int .i64 1), (.int .i64 1), (.int .i64 1)] 0))), (11, (some (.cells [(.int .i64 9), (.int .i64 4), (.int .i64 7), (.int .i64 10), (.int .i64 1), (.int .i64 8), (.int .i64 11), (.int .i64 2), (.int .i64 5), (.int .i64 0), (.int .i64 3), (.int .i64 6)] 0)))], ⟨.norm, [(.tup [(.str [45, 97, 94, 45, 49, 54, 43, 97, 94, 45, 49, 50, 43, 97, 94, 45, 52]), (.int .i64 0)])], 12, [], []⟩⟩
theorem Tryz.Mwj_chk : chkMemo Tryz.ctx Tryz.S12 1000000 13 Tryz.Mwj = true := by kernel_rfl
noncomputable def Tryz.S13 : Summ := PT.put (some (memos 10 [Tryz.Mw10t, Tryz.Mw20t, Tryz.Mw32t, Tryz.Mw33t, Tryz.Mw10u, Tryz.Mw20u, Tryz.Mw32u, Tryz.Mw33u, Tryz.Mwj])) Tryz.S12 13
theorem Tryz.sum13 {Ω : Nat → Option Obj} (hC : CtxOk Tryz.prog Tryz.ctx) (h : SummOk Tryz.prog Ω Tryz.ctx Tryz.S12) : SummOk Tryz.prog Ω Tryz.ctx Tryz.S13 :=
  h.put (ms := [Tryz.Mw10t, Tryz.Mw20t, Tryz.Mw32t, Tryz.Mw33t, Tryz.Mw10u, Tryz.Mw20u, Tryz.Mw32u, Tryz.Mw33u, Tryz.Mwj]) fun m hm => by
    simp only [List.mem_cons, List.not_mem_nil, or_false] at hm
    rcases hm with rfl | rfl | rfl | rfl | rfl | rfl | rfl | rfl | rfl
    · exact memoOk_of_chk hC h 1000000 Tryz.Mw10t_chk
    · exact memoOk_of_chk hC h 1000000 Tryz.Mw20t_chk
    · exact memoOk_of_chk hC h 1000000 Tryz.Mw32t_chk
    · exact memoOk_of_chk hC h 1000000 Tryz.Mw33t_chk
    · exact memoOk_of_chk hC h 1000000 Tryz.Mw10u_chk
    · exact memoOk_of_chk hC h 1000000 Tryz.Mw20u_chk
    · exact memoOk_of_chk hC h 1000000 Tryz.Mw32u_chk
    · exact memoOk_of_chk hC h 1000000 Tryz.Mw33u_chk
    · exact memoOk_of_chk hC h 1000000 Tryz.Mwj_chk
noncomputable def Tryz.Mfi : Memo := ⟨[(.agg [(.slice 10 0 3 3), (.slice 11 0 12 12), (.int .i64 0)]), (.agg [.nils, .nils, (.int .i64 1)]), (.int .i64 5)], [(10, (some (.cells [(.int .i64 1), (.int .i64 1), (.int .i64 1)] 0))), (11, (some (.cells [(.int .i64 9), (.int .i64 4), (.int .i64 7), (.int .i64 10), (.int .i64 1), (.int .i64 8), (.int .i64 11), (.int .i64 2), (.int .i64 5), (.int .i64 0), (.int .i64 3), (.int .i64 6)] 0)))], ⟨.norm, [(.tup [(.agg [(.int .i64 3), (.int .i64 3), .nils, .nils]), (.bool true)])], 12, [], []⟩⟩
theorem Tryz.Mfi_chk : chkMemo Tryz.ctx Tryz.S13 1000000 11 Tryz.Mfi = true := by kernel_rfl
noncomputable def Tryz.S14 : Summ := PT.put (some (memos 10 [Tryz.Mfi])) Tryz.S13 11
theorem Tryz.sum14 {Ω : Nat → Option Obj} (hC : CtxOk Tryz.prog Tryz.ctx) (h : SummOk Tryz.prog Ω Tryz.ctx Tryz.S13) : SummOk Tryz.prog Ω Tryz.ctx Tryz.S14 :=
  h.put (ms := [Tryz.Mfi]) fun m hm => by
    simp only [List.mem_cons, List.not_mem_nil, or_false] at hm
    subst hm
    exact memoOk_of_chk hC h 1000000 Tryz.Mfi_chk
noncomputable def Tryz.Maw : Memo := ⟨[], [], ⟨.norm, [(.bool true)], 10, [], []⟩⟩
theorem Tryz.Maw_chk : chkMemo Tryz.ctx Tryz.S14 1000000 5 Tryz.Maw = true := by kernel_rfl
noncomputable def Tryz.S15 : Summ := PT.put (some (memos 10 [Tryz.Maw])) Tryz.S14 5
theorem Tryz.sum15 {Ω : Nat → Option Obj} (hC : CtxOk Tryz.prog Tryz.ctx) (h : SummOk Tryz.prog Ω Tryz.ctx Tryz.S14) : SummOk Tryz.prog Ω Tryz.ctx Tryz.S15 :=
  h.put (ms := [Tryz.Maw]) fun m hm => by
    simp only [List.mem_cons, List.not_mem_nil, or_false] at hm
    subst hm
    exact memoOk_of_chk hC h 1000000 Tryz.Maw_chk
theorem Tryz.sums {Ω : Nat → Option Obj} (hC : CtxOk Tryz.prog Tryz.ctx) (h : SummOk Tryz.prog Ω Tryz.ctx Tryz.S0) : SummOk Tryz.prog Ω Tryz.ctx Tryz.S15 :=
  (Tryz.sum15 hC (Tryz.sum14 hC (Tryz.sum13 hC (Tryz.sum12 hC (Tryz.sum11 hC (Tryz.sum10 hC (Tryz.sum9 hC (Tryz.sum8 hC (Tryz.sum7 hC (Tryz.sum6 hC (Tryz.sum5 hC (Tryz.sum4 hC (Tryz.sum3 hC (Tryz.sum2 hC (Tryz.sum1 hC h)))))))))))))))
end Go.Proofs
