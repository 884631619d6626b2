/-
  A whole row loaded in a region walked by a plan.
-/
import Derived.Test.YtcgnjdkennkheaaGreatDoorMix4
import Derived.Test.YtcgnjdkennkheaaGreatDoorEqA
set_option linter.unusedVariables false
set_option maxRecDepth 100000
set_option linter.unusedSimpArgs false
namespace Go.Proofs.YtcgnjdkennkheaaGreatDoor
open Go.RowKit
section
variable {P : Program} {ops : Array Oper} {T : Act → World → Prop} {o : Oper} {r : Plan} {a : Act} {w w0 : World} {i : Nat}
theorem plan_row (ho : ops[i]? = some o) (hl : loudOp o = false) (hw : Region.wanted o (yielded ops a.tmps) = true) (ty : TypeId) (p : Operand) (hop : o.op = .load ty p) (g : Nat) (hx : a.eval p = .pointer (some ⟨g, 0, none⟩))
    (t : TypeId) (cs : Array Value) (d : TypeDesc) (hg : Blk w0 g t cs) (hu : P.underlying ty = some d) (hd : (match d with | .struct _ | .array _ _ => true | _ => false) = true) (hi : (P.info? ty).map (·.size) = some cs.size)
    (h : wpPlan P ops (fun w' => ∃ x : More w0, w' = grow w0 x) loudOp T r (a.put o.dst (.agg cs)) w) : wpPlan P ops (fun w' => ∃ x : More w0, w' = grow w0 x) loudOp T (.one i r) a w := by
  refine plan_quiet ho hl hw fun K hK => ⟨.agg cs, fun w' hs => ?_, hK _ h⟩
  obtain ⟨x, rfl⟩ := hs
  unfold Oper.quietAt execOp
  simp only [hop, hx, Instr.loadAt, Instr.sureAddr, Sem.run_bind, Sem.run_pure, Result.andThen_ok, run_loadVar_row (grow w0 x) g t ty cs (0, 0) d (Blk.grow x hg) hu hd hi]
  exact ⟨rfl, rfl⟩
end

end Go.Proofs.YtcgnjdkennkheaaGreatDoor
