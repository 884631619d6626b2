/-
  A region that draws its order, in which calls may write blocks that nobody else reads: the blocks of S stay.
-/
import Derived.Test.YtlcimlencoaiiaaDoorUpd
import Derived.Test.YtlcimlencoaiiaaDoorSums
set_option linter.unusedVariables false
set_option maxRecDepth 100000
set_option linter.unusedSimpArgs false
namespace Go.Proofs.YtlcimlencoaiiaaDoor
open Go.RowKit

/-- A world in which the blocks of S are as in w. -/
structure Held (S : Nat → Prop) (w : World) where
  world : World
  keep : Keep S w world
instance heldInhabited (S : Nat → Prop) (w : World) : Inhabited (Held S w) := ⟨⟨w, Keep.refl S w⟩⟩
def heldW (S : Nat → Prop) (w : World) (x : Held S w) : World := x.world
section
variable {S : Nat → Prop} {w : World} (x : Held S w)
theorem heldW_keep : Keep S w (heldW S w x) := x.keep
theorem held_of {w' : World} (h : Keep S w w') : ∃ y : Held S w, w' = heldW S w y := ⟨⟨w', h⟩, rfl⟩
variable {P : Program} {id : Nat} {Q : Exit → Act → World → Prop} {a : Act} {l : List Oper}
theorem region_keep (S : Nat → Prop) (n : Nat) (hm : P.follows .mixedOrders = true) (hB : mixB loudOp .any l.toArray n = true)
    (h : wpMix P l.toArray (fun w' => ∃ x : Held S w, w' = heldW S w x) loudOp (fun a' w' => wpList P l.toArray Q (l.drop n) a' w') (l.take n) a w.drew) : (Code.region id l.toArray true).wp P Q a w :=
  wp_region_mix (S := fun w' => ∃ x : Held S w, w' = heldW S w x) n hm hB (held_of (Keep.refl S w).drew) h
theorem region_keep0 (S : Nat → Prop) (hm : P.follows .mixedOrders = true) (hB : mixB loudOp .any l.toArray l.length = true)
    (h : wpMix P l.toArray (fun w' => ∃ x : Held S w, w' = heldW S w x) loudOp (fun a' w' => Q .normal a' w') l a w.drew) : (Code.region id l.toArray true).wp P Q a w := by
  refine region_keep S l.length hm hB ?_
  rw [List.take_length, List.drop_length]
  exact h
end
section
variable {P : Program} {ops : Array Oper} {T : Act → World → Prop} {o : Oper} {rest : List Oper} {a : Act} {w w0 : World} {S : Nat → Prop}
/-- A whole row. -/
theorem held_row (hl : loudOp o = false) (hw : Region.wanted o (yielded ops a.tmps) = true) (ty : TypeId) (p : Operand) (ho : o.op = .load ty p) (g : Nat) (hx : a.eval p = .pointer (some ⟨g, 0, none⟩))
    (t : TypeId) (cs : Array Value) (d : TypeDesc) (hg : Blk w0 g t cs) (hS : S g) (hu : P.underlying ty = some d) (hd : (match d with | .struct _ | .array _ _ => true | _ => false) = true) (hi : (P.info? ty).map (·.size) = some cs.size)
    (h : wpMix P ops (fun w' => ∃ x : Held S w0, w' = heldW S w0 x) loudOp T rest (a.put o.dst (.agg cs)) w) : wpMix P ops (fun w' => ∃ x : Held S w0, w' = heldW S w0 x) loudOp T (o :: rest) a w := by
  refine mix_quiet hl hw fun K hK => ⟨.agg cs, fun w' hs => ?_, hK _ h⟩
  obtain ⟨x, rfl⟩ := hs
  unfold Oper.quietAt execOp
  simp only [ho, hx, Instr.loadAt, Instr.sureAddr, Sem.run_bind, Sem.run_pure, Result.andThen_ok, run_loadVar_row (heldW S w0 x) g t ty cs (0, 0) d (hg.kept (heldW_keep x) hS) hu hd hi]
  exact ⟨rfl, rfl⟩
/-- A range of a row. -/
theorem held_mid (hl : loudOp o = false) (hw : Region.wanted o (yielded ops a.tmps) = true) (ty : TypeId) (p : Operand) (hop : o.op = .load ty p) (b f : Nat) (hx : a.eval p = .pointer (some ⟨b, f, none⟩)) (cs : List Value) (d : TypeDesc)
    (hc : w0.rangeAt b f cs) (hb : b < w0.heap.size) (hS : S b) (hu : P.underlying ty = some d) (hd : d.isRow = true) (hi : (P.info? ty).map (·.size) = some cs.length)
    (h : wpMix P ops (fun w' => ∃ x : Held S w0, w' = heldW S w0 x) loudOp T rest (a.put o.dst (.agg cs.toArray)) w) : wpMix P ops (fun w' => ∃ x : Held S w0, w' = heldW S w0 x) loudOp T (o :: rest) a w := by
  refine mix_quiet hl hw fun K hK => ⟨.agg cs.toArray, fun w' hs => ?_, hK _ h⟩
  obtain ⟨x, rfl⟩ := hs
  have hm : (heldW S w0 x).rangeAt b f cs := fun i v hv => (World.cell?_of_block ((heldW_keep x).block b hb hS)).trans (hc i v hv)
  unfold Oper.quietAt execOp
  simp only [hop, hx, Instr.loadAt, Instr.sureAddr, Sem.run_bind, Sem.run_pure, Result.andThen_ok, run_loadVar_mid (heldW S w0 x) b f ty cs d hm hu hd hi]
  exact ⟨rfl, rfl⟩
end

end Go.Proofs.YtlcimlencoaiiaaDoor
