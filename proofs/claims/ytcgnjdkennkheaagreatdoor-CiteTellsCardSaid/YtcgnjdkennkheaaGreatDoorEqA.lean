/-
  Two arrays of one-cell elements, compared.
-/
import Derived.Test.YtcgnjdkennkheaaGreatDoorOpS
import Derived.Test.YtcgnjdkennkheaaGreatDoorMix
import Derived.Laws.StructEq
set_option linter.unusedVariables false
set_option maxRecDepth 100000
set_option linter.unusedSimpArgs false
set_option linter.unusedSectionVars false
namespace Go.Proofs.YtcgnjdkennkheaaGreatDoor
open Go.RowKit

section
variable {P : Program} {α : Type} [DecidableEq α] (f : α → Value)
theorem part_one {e : TypeId} (ha : ∀ w, (isAgg e).run P w = .ok false w) (l : List α) (i : Nat) (h : i < l.length) (w : World) : (part e (l.map f).toArray i).run P w = .ok (f l[i]) w := by
  unfold part
  rw [Sem.run_bind, ha]
  simp [h]

theorem run_equalIn_arr (d : Nat) (t e : TypeId) (n : Nat) (hu : P.underlying t = some (.array n e)) (hz : ∀ w, (Go.sizeOf e).run P w = .ok 1 w) (ha : ∀ w, (isAgg e).run P w = .ok false w)
    (he : ∀ (a b : α) (w : World), (Op.equalIn d e (f a) (f b)).run P w = .ok (decide (a = b)) w) (xs ys : List α) (hx : xs.length = n) (hy : ys.length = n) (w : World) :
    (Op.equalIn (d + 1) t (.agg (xs.map f).toArray) (.agg (ys.map f).toArray)).run P w = .ok (decide (xs = ys)) w := by
  simp only [Op.equalIn, Sem.run_bind, run_underlying hu, Result.andThen_ok, hz]
  rw [Std.Legacy.Range.forIn_eq_forIn_range']
  have hsz : [:n].size = n := by simp [Std.Legacy.Range.size]
  rw [hsz]
  show ((Sem.run P (forIn (List.range' 0 n 1) _ _) w).andThen _) = _
  have key : ∀ (m i : Nat), i + m = n → ((Sem.run P (forIn (m := Sem) (List.range' i m 1) ((none : Option Bool), ()) fun i __s => do
            let __do_lift ← part e (List.map f xs).toArray (i * 1)
            let __do_lift_1 ← part e (List.map f ys).toArray (i * 1)
            let __do_lift ← Op.equalIn d e __do_lift __do_lift_1
            if (!__do_lift) = true then pure (ForInStep.done (some false, ())) else pure (ForInStep.yield (none, ()))) w).andThen
      fun a w' => Sem.run P (match a.fst with
        | some r => pure r
        | none => pure true) w') = Result.ok (decide (xs.drop i = ys.drop i)) w := by
    intro m
    induction m with
    | zero =>
      intro i hi
      rw [List.drop_of_length_le (by omega), List.drop_of_length_le (by omega)]
      simp
    | succ m ih =>
      intro i hi
      have hix : i < xs.length := by omega
      have hiy : i < ys.length := by omega
      simp only [List.range'_succ, List.forIn_cons, Sem.run_bind, Nat.mul_one, part_one f ha xs i hix, part_one f ha ys i hiy, Result.andThen_ok, he]
      rw [List.drop_eq_getElem_cons hix, List.drop_eq_getElem_cons hiy]
      by_cases h : xs[i] = ys[i]
      · have := ih (i + 1) (by omega)
        simp only [Nat.mul_one] at this
        simp only [h, decide_true, Bool.not_true, Bool.false_eq_true, if_false, Sem.run_pure, Result.andThen_ok]
        exact this.trans (by simp only [List.cons.injEq, true_and])
      · simp only [h, decide_false, Bool.not_false, if_true, Sem.run_pure, Result.andThen_ok, List.cons.injEq, false_and]
  have := key n 0 (by omega)
  rw [List.drop_zero, List.drop_zero] at this
  refine Eq.trans ?_ this
  refine congrArg _ ?_
  funext a w'
  rcases a with ⟨_ | a, u⟩ <;> rfl
end

theorem eq_u8 (d : Nat) (a b : UInt8) (w : World) : (Op.equalIn (d + 1) 5 (byteV a) (byteV b)).run Tryz.prog w = .ok (decide (a = b)) w := by
  unfold byteV
  rw [run_equalIn_int w d _ _ _ _ _ Tryz.underlying5]
  congr 1
  rw [Bool.eq_iff_iff]
  simp only [beq_iff_eq, decide_eq_true_eq, UInt8.toNat_inj.symm]
  omega
theorem eq_u32 (d : Nat) (a b : Int) (w : World) : (Op.equalIn (d + 1) 124 (wordV a) (wordV b)).run Tryz.prog w = .ok (decide (a = b)) w := by
  unfold wordV
  rw [run_equalIn_int w d _ _ _ _ _ Tryz.underlying124]
  congr 1
theorem eq_sum (xs ys : List UInt8) (hx : xs.length = 32) (hy : ys.length = 32) (w : World) : (Op.equalIn 10000 28 (.agg (xs.map byteV).toArray) (.agg (ys.map byteV).toArray)).run Tryz.prog w = .ok (decide (xs = ys)) w :=
  run_equalIn_arr byteV 9999 _ 5 32 Tryz.underlying28 (fun w => by rw [Tryz.sizeOf5]) (fun w => by rw [Tryz.isAgg5]) (fun a b w => eq_u8 9998 a b w) xs ys hx hy w
theorem eq_w8 (xs ys : List Int) (hx : xs.length = 8) (hy : ys.length = 8) (w : World) : (Op.equalIn 10000 125 (.agg (xs.map wordV).toArray) (.agg (ys.map wordV).toArray)).run Tryz.prog w = .ok (decide (xs = ys)) w :=
  run_equalIn_arr wordV 9999 _ 124 8 Tryz.underlying125 (fun w => by rw [Tryz.sizeOf124]) (fun w => by rw [Tryz.isAgg124]) (fun a b w => eq_u32 9998 a b w) xs ys hx hy w
theorem guard_sum : Tryz.prog.eqGuardType Tryz.prog.depth 28 = false := by kernel_rfl
theorem guard_w8 : Tryz.prog.eqGuardType Tryz.prog.depth 125 = false := by kernel_rfl


section
variable {P : Program} {ops : Array Oper} {T : Act → World → Prop} {o : Oper} {rest : List Oper} {a : Act} {w w0 : World}
/-- A whole row loaded in a region that draws its order. -/
theorem mix_row (hl : loudOp o = false) (hw : Region.wanted o (yielded ops a.tmps) = true) (ty : TypeId) (p : Operand) (ho : o.op = .load ty p) (g : Nat) (hx : a.eval p = .pointer (some ⟨g, 0, none⟩))
    (t : TypeId) (cs : Array Value) (d : TypeDesc) (hg : Blk w0 g t cs) (hu : P.underlying ty = some d) (hd : (match d with | .struct _ | .array _ _ => true | _ => false) = true) (hi : (P.info? ty).map (·.size) = some cs.size)
    (h : wpMix P ops (fun w' => ∃ x : More w0, w' = grow w0 x) loudOp T rest (a.put o.dst (.agg cs)) w) : wpMix P ops (fun w' => ∃ x : More w0, w' = grow w0 x) loudOp T (o :: rest) a w := by
  refine mix_quiet hl hw fun K hK => ⟨.agg cs, fun w' hs => ?_, hK _ h⟩
  obtain ⟨x, rfl⟩ := hs
  unfold Oper.quietAt execOp
  simp only [ho, hx, Instr.loadAt, Instr.sureAddr, Sem.run_bind, Sem.run_pure, Result.andThen_ok, run_loadVar_row (grow w0 x) g t ty cs (0, 0) d (Blk.grow x hg) hu hd hi]
  exact ⟨rfl, rfl⟩
end

end Go.Proofs.YtcgnjdkennkheaaGreatDoor
