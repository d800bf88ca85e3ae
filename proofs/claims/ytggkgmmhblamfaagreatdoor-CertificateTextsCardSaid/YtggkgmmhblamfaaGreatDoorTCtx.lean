/- Part of the proof. -/
import Derived.Test.YtggkgmmhblamfaaGreatDoorTEvF
import Derived.Test.YtggkgmmhblamfaaGreatDoorTTab
set_option linter.all false
namespace Go.Proofs
open Go.Ev
set_option maxRecDepth 1000000
theorem Tryz.k1 : (Tryz.ctx.fn.toL fun i => i).map (fun e => Tryz.prog.funcs[e.1]?) = (Tryz.ctx.fn.toL fun i => i).map fun e => some e.2 := by kernel_rfl
theorem Tryz.k5 : Tryz.prog.follows .mixedOrders = true := by kernel_rfl
theorem Tryz.k2 : (Tryz.ctx.fn.toL fun i => i).all (fun e => e.2.name != "runtime.NumGoroutine" && e.2.body.isSome) = true := by kernel_rfl
theorem Tryz.k3 : (Tryz.ctx.ty.toL fun i => i).map (fun e => tyOf Tryz.prog e.1) = (Tryz.ctx.ty.toL fun i => i).map fun e => some e.2 := by kernel_rfl
end Go.Proofs
namespace Go.Proofs
open Go.Ev
set_option maxRecDepth 1000000
theorem Tryz.extL : (Tryz.ctx.ext.toL fun i => i).all (fun e => (Nat.beq e.1 155 && Nat.beq e.2 2) || (Nat.beq e.1 298 && Nat.beq e.2 0) || (Nat.beq e.1 340 && Nat.beq e.2 1)) = true := by kernel_rfl
theorem Tryz.k4a : ∃ fn, Tryz.prog.funcs[155]? = some fn ∧ fn.body = none ∧ fn.name ≠ "runtime.NumGoroutine" ∧ Extern.findNext fn = none ∧ Extern.find fn = some Extern.AbiNoEscape.same :=
  ⟨Tryz.f155, by kernel_rfl, by kernel_rfl, (by have h : Tryz.f155.name = "internal/abi.NoEscape" := by kernel_rfl
                                                rw [h]; decide), by kernel_rfl, by kernel_rfl⟩
theorem Tryz.k4b : ∃ fn, Tryz.prog.funcs[298]? = some fn ∧ fn.body = none ∧ fn.name ≠ "runtime.NumGoroutine" ∧ Extern.findNext fn = none ∧ Extern.find fn = some (fun args => do
          let (x, y, c) ← Extern.MathBitsCarry.three "Add64" args
          pure (Extern.MathBitsCarry.pair ((x + y + c) % Extern.MathBitsCarry.m64) ((x + y + c) / Extern.MathBitsCarry.m64))) :=
  ⟨Tryz.f298, by kernel_rfl, by kernel_rfl, (by have h : Tryz.f298.name = "math/bits.Add64" := by kernel_rfl
                                                rw [h]; decide), by kernel_rfl, by kernel_rfl⟩
theorem Tryz.k4c : ∃ fn, Tryz.prog.funcs[340]? = some fn ∧ fn.body = none ∧ fn.name ≠ "runtime.NumGoroutine" ∧ Extern.findNext fn = none ∧ Extern.find fn = some (fun args => do
          let (x, y, b) ← Extern.MathBitsCarry.three "Sub64" args
          pure (Extern.MathBitsCarry.pair ((x + Extern.MathBitsCarry.m64 - y - b) % Extern.MathBitsCarry.m64) (if x < y + b then 1 else 0))) :=
  ⟨Tryz.f340, by kernel_rfl, by kernel_rfl, (by have h : Tryz.f340.name = "math/bits.Sub64" := by kernel_rfl
                                                rw [h]; decide), by kernel_rfl, by kernel_rfl⟩
theorem Tryz.ctxOk' (k1 : (Tryz.ctx.fn.toL fun i => i).map (fun e => Tryz.prog.funcs[e.1]?) = (Tryz.ctx.fn.toL fun i => i).map fun e => some e.2)
    (k5 : Tryz.prog.follows .mixedOrders = true) (k2 : (Tryz.ctx.fn.toL fun i => i).all (fun e => e.2.name != "runtime.NumGoroutine" && e.2.body.isSome) = true)
    (k3 : (Tryz.ctx.ty.toL fun i => i).map (fun e => tyOf Tryz.prog e.1) = (Tryz.ctx.ty.toL fun i => i).map fun e => some e.2) : CtxOk Tryz.prog Tryz.ctx :=
  ctxOk_of k1 k2 k3 (fun e he => by
    have h := List.all_eq_true.1 Tryz.extL e he
    obtain ⟨f, k⟩ := e
    simp only [Bool.or_eq_true, Bool.and_eq_true, Nat.beq_eq] at h
    rcases h with (⟨rfl, rfl⟩ | ⟨rfl, rfl⟩) | ⟨rfl, rfl⟩
    · exact Tryz.k4a
    · exact Tryz.k4b
    · exact Tryz.k4c) k5
end Go.Proofs
