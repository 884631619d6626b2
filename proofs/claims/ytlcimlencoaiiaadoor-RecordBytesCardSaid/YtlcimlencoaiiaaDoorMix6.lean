/-
  The walk by a plan, conversions taken as loud operations (they may read what was made in the region).
-/
import Derived.Test.YtlcimlencoaiiaaDoorMix5
set_option linter.unusedVariables false
set_option maxRecDepth 100000
set_option linter.unusedSimpArgs false
namespace Go.Proofs.YtlcimlencoaiiaaDoor
open Go.RowKit

def convOp : Op → Bool
  | .convert .. => true
  | _ => false
def loudC (o : Oper) : Bool := loudOp o || convOp o.op
section
variable {P : Program} {ops : Array Oper} {S : World → Prop} {T : Act → World → Prop} {o : Oper} {r r1 r2 : Plan} {a : Act} {w : World} {i j : Nat}
theorem planC_nil (h : T a w) : wpPlan P ops S loudC T .nil a w := h
theorem planC_skip (ho : ops[i]? = some o) (hw : Region.wanted o (yielded ops a.tmps) = false) (h : wpPlan P ops S loudC T r (a.put o.dst undef) w) : wpPlan P ops S loudC T (.one i r) a w := by
  show mOp P ops S loudC i _ a w
  unfold mOp
  simp only [ho]
  split
  · exact .inr ⟨hw, h⟩
  · exact ⟨undef, .inr ⟨hw, rfl⟩, h⟩
theorem planC_loud (ho : ops[i]? = some o) (hl : loudC o = true) (hw : Region.wanted o (yielded ops a.tmps) = true) (h : ∀ (K : Act → World → Prop) (E : Exit → Act → World → Prop), (∀ a' w', S w' → wpPlan P ops S loudC T r a' w' → K a' w') → o.wp P a w K E) : mOp P ops S loudC i (wpPlan P ops S loudC T r) a w := by
  unfold mOp
  simp only [ho, hl, if_true]
  exact .inl ⟨hw, h _ _ fun _ _ hs h' => ⟨hs, h'⟩⟩
theorem planC_one (h : mOp P ops S loudC i (wpPlan P ops S loudC T r) a w) : wpPlan P ops S loudC T (.one i r) a w := h
theorem planC_two (h1 : mOp P ops S loudC i (wpPlan P ops S loudC T r1) a w) (h2 : mOp P ops S loudC j (wpPlan P ops S loudC T r2) a w) : wpPlan P ops S loudC T (.two i j r1 r2) a w := ⟨h1, h2⟩
theorem planC_quiet (ho : ops[i]? = some o) (hl : loudC o = false) (hw : Region.wanted o (yielded ops a.tmps) = true) (h : ∀ K : Act → Prop, (∀ a', wpPlan P ops S loudC T r a' w → K a') → o.quiet P a S K) : wpPlan P ops S loudC T (.one i r) a w := by
  obtain ⟨v, hv, hk⟩ := h (fun a' => wpPlan P ops S loudC T r a' w) (fun _ h => h)
  show mOp P ops S loudC i _ a w
  unfold mOp
  simp only [ho, hl, Bool.false_eq_true, if_false]
  refine ⟨v, .inl ⟨hw, fun w' hs => ?_⟩, hk⟩
  have h1 := hv w' hs
  unfold Oper.quietAt at h1
  cases hr : (execOp a.eval o).run P w' with
  | ok n w1 =>
    rw [hr] at h1
    obtain ⟨u, rfl⟩ := quiet_value (by simp only [loudC, Bool.or_eq_false_iff] at hl; exact hl.1) hr
    simp only [Oper.quietUpon] at h1
    rw [h1.1, h1.2]
  | halt x w1 => rw [hr] at h1; exact h1.elim
end
section
variable {P : Program} {id : Nat} {Q : Exit → Act → World → Prop} {a : Act} {w : World} {l : List Oper}
theorem region_planC (n : Nat) (p : Plan) (hm : P.follows .mixedOrders = true) (hB : regB loudC .any l.toArray n p = true)
    (h : ∀ x, wpPlan P l.toArray (fun w' => ∃ x : More w, w' = grow w x) loudC (fun a' w' => wpList P l.toArray Q (l.drop n) a' w') p a (grow w x)) : (Code.region id l.toArray true).wp P Q a w := by
  obtain ⟨x, hx⟩ := more_of (Ext.refl w).drew
  have hx' : ({ w with drawn := w.drawn + 1 } : World) = grow w x := hx
  exact wp_region_plan (S := fun w' => ∃ x : More w, w' = grow w x) n p hm hB ⟨x, hx'⟩ (by rw [hx']; exact h x)
end
section
variable {P : Program} {ops : Array Oper} {T : Act → World → Prop} {o : Oper} {r : Plan} {a : Act} {w w0 : World} {i : Nat}
theorem planC_row (ho : ops[i]? = some o) (hl : loudC o = false) (hw : Region.wanted o (yielded ops a.tmps) = true) (ty : TypeId) (p : Operand) (hop : o.op = .load ty p) (g : Nat) (hx : a.eval p = .pointer (some ⟨g, 0, none⟩))
    (t : TypeId) (cs : Array Value) (d : TypeDesc) (hg : Blk w0 g t cs) (hu : P.underlying ty = some d) (hd : (match d with | .struct _ | .array _ _ => true | _ => false) = true) (hi : (P.info? ty).map (·.size) = some cs.size)
    (h : wpPlan P ops (fun w' => ∃ x : More w0, w' = grow w0 x) loudC T r (a.put o.dst (.agg cs)) w) : wpPlan P ops (fun w' => ∃ x : More w0, w' = grow w0 x) loudC T (.one i r) a w := by
  refine planC_quiet ho hl hw fun K hK => ⟨.agg cs, fun w' hs => ?_, hK _ h⟩
  obtain ⟨x, rfl⟩ := hs
  unfold Oper.quietAt execOp
  simp only [hop, hx, Instr.loadAt, Instr.sureAddr, Sem.run_bind, Sem.run_pure, Result.andThen_ok, run_loadVar_row (grow w0 x) g t ty cs (0, 0) d (Blk.grow x hg) hu hd hi]
  exact ⟨rfl, rfl⟩
end

end Go.Proofs.YtlcimlencoaiiaaDoor
