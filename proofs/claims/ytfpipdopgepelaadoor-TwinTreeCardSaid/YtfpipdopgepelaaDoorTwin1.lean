/-
  Twins: the walks of twin.Are, first with its closure, side.
-/
import Derived.Test.YtfpipdopgepelaaDoorSls12
set_option linter.unusedVariables false
set_option maxRecDepth 100000
set_option linter.unusedSimpArgs false
namespace Go.Proofs.YtfpipdopgepelaaDoor
open Go.ChangeShapes Go.WideShapes Go.ChangeAt Go.RowKit
attribute [local go_sem] bs_size bs_toList2 bs_append bs_extract_end bs_extract_begin bs_get wrap64_b grow_cell grow_frozen

/-- Are two texts twins? -/
def areB (a b : List UInt8) : Bool := !(a == b) && decide (shaOf a = shaOf b)
theorem areB_same (a : List UInt8) : areB a a = false := by simp [areB]
theorem areB_is (a b : List UInt8) : areB a b = Way.twinB shaOf (a, b) := by
  unfold areB Way.twinB
  by_cases h : a = b
  · subst h; simp
  · have : (a == b) = false := by rw [beq_eq_false_iff_ne]; exact h
    rw [this]
    simp [h]
abbrev twV (a b : List UInt8) : Value := .agg #[.string (bs a), .string (bs b)]
theorem guard_twins : Tryd.prog.eqGuardType Tryd.prog.depth 57 = false := by kernel_rfl
theorem held_twins : Tryd.prog.stoodInHeld 57 = false := by kernel_rfl
theorem joinB_one (a : List UInt8) : joinB [a] = a := by simp [joinB]

section
variable {P : Program} {ops : Array Oper} {S : World → Prop} {T : Act → World → Prop} {o : Oper} {r : Plan} {a : Act} {w : World} {i : Nat}
theorem mop_skip (ho : ops[i]? = some o) (hw : Region.wanted o (yielded ops a.tmps) = false) (h : wpPlan P ops S loudOp T r (a.put o.dst undef) w) : mOp P ops S loudOp i (wpPlan P ops S loudOp T r) a w := plan_skip ho hw h
end

set_option maxHeartbeats 2000000 in
theorem Are_calls (a b : List UInt8) (ha : a.length ≤ 4611686018427380000) (hb : b.length ≤ 4611686018427380000) (w : World) (KW : Keys w) :
    Calls Tryd.prog 41 #[twV a b] w fun e w' => e = .returned (.bool (areB a b)) ∧ Ext w w' := by
  have hgw := guard_sum
  obtain ⟨r, hr⟩ : ∃ r, r = areB a b := ⟨_, rfl⟩
  rw [← hr]
  have HR := Lib.hid hr
  clear hr
  go_enter Tryd.func41, Tryd.ntmps41
  go_wp2_with fail
  have hT0 := Blk.new w 57 #[.string (bs a), .string (bs b)]
  have hE0 := (Ext.refl w).alloc (.cells #[.string (bs a), .string (bs b)] 57)
  generalize w.alloc (.cells #[.string (bs a), .string (bs b)] 57) = w0 at *
  have c0 : w0.cell? ⟨w.heap.size, 0, none⟩ = some (.string (bs a)) := Blk.cell hT0 0
  have c1 : w0.cell? ⟨w.heap.size, 1, none⟩ = some (.string (bs b)) := Blk.cell hT0 1
  have hgl := hT0.lt
  by_cases hab : a = b
  · subst hab
    have hr := HR.out
    rw [areB_same] at hr
    subst hr
    have hbb : (a == a) = true := by simp
    refine region_plan 17 (Plan.run [0, 1, 2, 3, 4, 5, 6, 7, 10, 11] (.two 8 12 (Plan.run [] (.two 9 12 (Plan.run [12, 13, 14, 15, 16] .nil) (Plan.run [9, 13, 14, 15, 16] .nil))) (Plan.run [8, 9, 13, 14, 15, 16] .nil))) (by kernel_rfl) (by kernel_rfl) (fun y0 => ?_); simp only [Plan.run, List.drop_succ_cons, List.drop_zero, List.drop_nil]
    iterate 10 (first | (refine plan_quiet (by simp only [List.getElem?_toArray, List.getElem?_cons_zero, List.getElem?_cons_succ]; rfl) (by rfl) (by rfl) (fun K hK => ?_); go_big_quiet_op; refine hK _ ?_; clear hK K) | (refine plan_skip (by simp only [List.getElem?_toArray, List.getElem?_cons_zero, List.getElem?_cons_succ]; rfl) (by rfl) ?_; simp only [Act.put, List.setIfInBounds_toArray, List.set_cons_zero, List.set_cons_succ]))
    refine plan_two ?_ ?_
    · (refine mop_skip (by simp only [List.getElem?_toArray, List.getElem?_cons_zero, List.getElem?_cons_succ]; rfl) (by rfl) ?_; simp only [Act.put, List.setIfInBounds_toArray, List.set_cons_zero, List.set_cons_succ])
      refine plan_two ?_ ?_
      · (refine mop_skip (by simp only [List.getElem?_toArray, List.getElem?_cons_zero, List.getElem?_cons_succ]; rfl) (by rfl) ?_; simp only [Act.put, List.setIfInBounds_toArray, List.set_cons_zero, List.set_cons_succ])
        refine plan_one ?_
        (refine mop_skip (by simp only [List.getElem?_toArray, List.getElem?_cons_zero, List.getElem?_cons_succ]; rfl) (by rfl) ?_; simp only [Act.put, List.setIfInBounds_toArray, List.set_cons_zero, List.set_cons_succ])
        refine plan_one ?_
        (refine mop_skip (by simp only [List.getElem?_toArray, List.getElem?_cons_zero, List.getElem?_cons_succ]; rfl) (by rfl) ?_; simp only [Act.put, List.setIfInBounds_toArray, List.set_cons_zero, List.set_cons_succ])
        iterate 3 (first | (refine plan_quiet (by simp only [List.getElem?_toArray, List.getElem?_cons_zero, List.getElem?_cons_succ]; rfl) (by rfl) (by rfl) (fun K hK => ?_); go_big_quiet_op; refine hK _ ?_; clear hK K) | (refine plan_skip (by simp only [List.getElem?_toArray, List.getElem?_cons_zero, List.getElem?_cons_succ]; rfl) (by rfl) ?_; simp only [Act.put, List.setIfInBounds_toArray, List.set_cons_zero, List.set_cons_succ]))
        refine plan_nil ?_
        go_wp2_with fail
        go_ret
        exact ⟨rfl, hE0.trans (grow_ext _)⟩
      · (refine mop_skip (by simp only [List.getElem?_toArray, List.getElem?_cons_zero, List.getElem?_cons_succ]; rfl) (by rfl) ?_; simp only [Act.put, List.setIfInBounds_toArray, List.set_cons_zero, List.set_cons_succ])
        refine plan_one ?_
        (refine mop_skip (by simp only [List.getElem?_toArray, List.getElem?_cons_zero, List.getElem?_cons_succ]; rfl) (by rfl) ?_; simp only [Act.put, List.setIfInBounds_toArray, List.set_cons_zero, List.set_cons_succ])
        refine plan_one ?_
        (refine mop_skip (by simp only [List.getElem?_toArray, List.getElem?_cons_zero, List.getElem?_cons_succ]; rfl) (by rfl) ?_; simp only [Act.put, List.setIfInBounds_toArray, List.set_cons_zero, List.set_cons_succ])
        iterate 3 (first | (refine plan_quiet (by simp only [List.getElem?_toArray, List.getElem?_cons_zero, List.getElem?_cons_succ]; rfl) (by rfl) (by rfl) (fun K hK => ?_); go_big_quiet_op; refine hK _ ?_; clear hK K) | (refine plan_skip (by simp only [List.getElem?_toArray, List.getElem?_cons_zero, List.getElem?_cons_succ]; rfl) (by rfl) ?_; simp only [Act.put, List.setIfInBounds_toArray, List.set_cons_zero, List.set_cons_succ]))
        refine plan_nil ?_
        go_wp2_with fail
        go_ret
        exact ⟨rfl, hE0.trans (grow_ext _)⟩
    · (refine mop_skip (by simp only [List.getElem?_toArray, List.getElem?_cons_zero, List.getElem?_cons_succ]; rfl) (by rfl) ?_; simp only [Act.put, List.setIfInBounds_toArray, List.set_cons_zero, List.set_cons_succ])
      refine plan_one ?_
      (refine mop_skip (by simp only [List.getElem?_toArray, List.getElem?_cons_zero, List.getElem?_cons_succ]; rfl) (by rfl) ?_; simp only [Act.put, List.setIfInBounds_toArray, List.set_cons_zero, List.set_cons_succ])
      refine plan_one ?_
      (refine mop_skip (by simp only [List.getElem?_toArray, List.getElem?_cons_zero, List.getElem?_cons_succ]; rfl) (by rfl) ?_; simp only [Act.put, List.setIfInBounds_toArray, List.set_cons_zero, List.set_cons_succ])
      refine plan_one ?_
      (refine mop_skip (by simp only [List.getElem?_toArray, List.getElem?_cons_zero, List.getElem?_cons_succ]; rfl) (by rfl) ?_; simp only [Act.put, List.setIfInBounds_toArray, List.set_cons_zero, List.set_cons_succ])
      iterate 3 (first | (refine plan_quiet (by simp only [List.getElem?_toArray, List.getElem?_cons_zero, List.getElem?_cons_succ]; rfl) (by rfl) (by rfl) (fun K hK => ?_); go_big_quiet_op; refine hK _ ?_; clear hK K) | (refine plan_skip (by simp only [List.getElem?_toArray, List.getElem?_cons_zero, List.getElem?_cons_succ]; rfl) (by rfl) ?_; simp only [Act.put, List.setIfInBounds_toArray, List.set_cons_zero, List.set_cons_succ]))
      refine plan_nil ?_
      go_wp2_with fail
      go_ret
      exact ⟨rfl, hE0.trans (grow_ext _)⟩
  · have hbb : (a == b) = false := by rw [beq_eq_false_iff_ne]; exact hab
    obtain ⟨d, hd0⟩ : ∃ d, d = decide (shaOf a = shaOf b) := ⟨_, rfl⟩
    have har : r = d := by rw [HR.out]; unfold areB; rw [hbb, ← hd0]; rfl
    subst har
    have heq := fun w : World => eq_sum (shaOf a) (shaOf b) (shaOf_length a) (shaOf_length b) w
    rw [← hd0] at heq
    have hj1 := joinB_one a
    have hj2 := joinB_one b
    have hKs : ∀ x : More w0, Keys (grow w0 x) := fun x => KW.ext (hE0.trans (grow_ext x))
    clear hd0 hab
    refine region_plan 17 (Plan.run [0, 1, 2, 3, 4, 5, 6, 7, 10, 11] (.two 8 12 (Plan.run [] (.two 9 12 (Plan.run [12, 13, 14, 15, 16] .nil) (Plan.run [9, 13, 14, 15, 16] .nil))) (Plan.run [8, 9, 13, 14, 15, 16] .nil))) (by kernel_rfl) (by kernel_rfl) (fun y0 => ?_); simp only [Plan.run, List.drop_succ_cons, List.drop_zero, List.drop_nil]
    iterate 10 (first | (refine plan_quiet (by simp only [List.getElem?_toArray, List.getElem?_cons_zero, List.getElem?_cons_succ]; rfl) (by rfl) (by rfl) (fun K hK => ?_); go_big_quiet_op; refine hK _ ?_; clear hK K) | (refine plan_skip (by simp only [List.getElem?_toArray, List.getElem?_cons_zero, List.getElem?_cons_succ]; rfl) (by rfl) ?_; simp only [Act.put, List.setIfInBounds_toArray, List.set_cons_zero, List.set_cons_succ]))
    refine plan_two ?_ ?_
    · (refine plan_loud (by simp only [List.getElem?_toArray, List.getElem?_cons_zero, List.getElem?_cons_succ]; rfl) (by rfl) (by rfl) (fun K E hK => ?_); go_big_op)
      obtain ⟨y1, hy1⟩ := more_of ((grow_ext y0).alloc (.cells #[.string (bs a)] 9))
      have h8 : Rd ((grow w0 y0).alloc (.cells #[.string (bs a)] 9)) ((grow w0 y0).alloc (.cells #[.string (bs a)] 9)).heap.size (some ⟨(grow w0 y0).heap.size, 0, none⟩) ([a].map strV) := Blk.rd (Blk.new _ _ _)
      rw [hy1] at h8 ⊢
      clear hy1; generalize (grow w0 y0).heap.size = g8 at *
      refine hK _ _ ⟨_, rfl⟩ ?_; clear hK K E
      refine plan_two ?_ ?_
      · (refine plan_loud (by simp only [List.getElem?_toArray, List.getElem?_cons_zero, List.getElem?_cons_succ]; rfl) (by rfl) (by rfl) (fun K E hK => ?_); go_big_op)
        refine (Of_calls [a] _ 1 (grow w0 y1) (hKs _) h8 (by simp) (by rw [hj1]; omega)).mono ?_; rw [hj1]; unfold sumV; rintro e w3 ⟨rfl, hd⟩
        obtain ⟨y2, rfl⟩ := more_ext y1 hd; clear hd
        refine hK _ _ ⟨_, rfl⟩ ?_; clear hK K E
        clear h8
        refine plan_one ?_
        (refine plan_loud (by simp only [List.getElem?_toArray, List.getElem?_cons_zero, List.getElem?_cons_succ]; rfl) (by rfl) (by rfl) (fun K E hK => ?_); go_big_op)
        obtain ⟨y3, hy3⟩ := more_of ((grow_ext y2).alloc (.cells #[.string (bs b)] 9))
        have h12 : Rd ((grow w0 y2).alloc (.cells #[.string (bs b)] 9)) ((grow w0 y2).alloc (.cells #[.string (bs b)] 9)).heap.size (some ⟨(grow w0 y2).heap.size, 0, none⟩) ([b].map strV) := Blk.rd (Blk.new _ _ _)
        rw [hy3] at h12 ⊢
        clear hy3; generalize (grow w0 y2).heap.size = g12 at *
        refine hK _ _ ⟨_, rfl⟩ ?_; clear hK K E
        refine plan_one ?_
        (refine plan_loud (by simp only [List.getElem?_toArray, List.getElem?_cons_zero, List.getElem?_cons_succ]; rfl) (by rfl) (by rfl) (fun K E hK => ?_); go_big_op)
        refine (Of_calls [b] _ 1 (grow w0 y3) (hKs _) h12 (by simp) (by rw [hj2]; omega)).mono ?_; rw [hj2]; unfold sumV; rintro e w3 ⟨rfl, hd⟩
        obtain ⟨y4, rfl⟩ := more_ext y3 hd; clear hd
        refine hK _ _ ⟨_, rfl⟩ ?_; clear hK K E
        clear h12
        iterate 3 (first | (refine plan_quiet (by simp only [List.getElem?_toArray, List.getElem?_cons_zero, List.getElem?_cons_succ]; rfl) (by rfl) (by rfl) (fun K hK => ?_); go_big_quiet_op; refine hK _ ?_; clear hK K) | (refine plan_skip (by simp only [List.getElem?_toArray, List.getElem?_cons_zero, List.getElem?_cons_succ]; rfl) (by rfl) ?_; simp only [Act.put, List.setIfInBounds_toArray, List.set_cons_zero, List.set_cons_succ]))
        refine plan_nil ?_
        go_wp2_with fail
        go_ret
        exact ⟨rfl, hE0.trans (grow_ext _)⟩
      · (refine plan_loud (by simp only [List.getElem?_toArray, List.getElem?_cons_zero, List.getElem?_cons_succ]; rfl) (by rfl) (by rfl) (fun K E hK => ?_); go_big_op)
        obtain ⟨y5, hy5⟩ := more_of ((grow_ext y1).alloc (.cells #[.string (bs b)] 9))
        have h12 : Rd ((grow w0 y1).alloc (.cells #[.string (bs b)] 9)) ((grow w0 y1).alloc (.cells #[.string (bs b)] 9)).heap.size (some ⟨(grow w0 y1).heap.size, 0, none⟩) ([b].map strV) := Blk.rd (Blk.new _ _ _)
        replace h8 := (h8.below ((Ext.refl _).alloc (.cells #[.string (bs b)] 9)) (Nat.le_refl _)).more ((Ext.refl _).alloc (.cells #[.string (bs b)] 9)).size
        rw [hy5] at h12 h8 ⊢
        clear hy5; generalize (grow w0 y1).heap.size = g12 at *
        refine hK _ _ ⟨_, rfl⟩ ?_; clear hK K E
        refine plan_one ?_
        (refine plan_loud (by simp only [List.getElem?_toArray, List.getElem?_cons_zero, List.getElem?_cons_succ]; rfl) (by rfl) (by rfl) (fun K E hK => ?_); go_big_op)
        refine (Of_calls [a] _ 1 (grow w0 y5) (hKs _) h8 (by simp) (by rw [hj1]; omega)).mono ?_; rw [hj1]; unfold sumV; rintro e w3 ⟨rfl, hd⟩
        replace h12 := (h12.below hd (Nat.le_refl _)).more hd.size
        obtain ⟨y6, rfl⟩ := more_ext y5 hd; clear hd
        refine hK _ _ ⟨_, rfl⟩ ?_; clear hK K E
        clear h8
        refine plan_one ?_
        (refine plan_loud (by simp only [List.getElem?_toArray, List.getElem?_cons_zero, List.getElem?_cons_succ]; rfl) (by rfl) (by rfl) (fun K E hK => ?_); go_big_op)
        refine (Of_calls [b] _ 1 (grow w0 y6) (hKs _) h12 (by simp) (by rw [hj2]; omega)).mono ?_; rw [hj2]; unfold sumV; rintro e w3 ⟨rfl, hd⟩
        obtain ⟨y7, rfl⟩ := more_ext y6 hd; clear hd
        refine hK _ _ ⟨_, rfl⟩ ?_; clear hK K E
        clear h12
        iterate 3 (first | (refine plan_quiet (by simp only [List.getElem?_toArray, List.getElem?_cons_zero, List.getElem?_cons_succ]; rfl) (by rfl) (by rfl) (fun K hK => ?_); go_big_quiet_op; refine hK _ ?_; clear hK K) | (refine plan_skip (by simp only [List.getElem?_toArray, List.getElem?_cons_zero, List.getElem?_cons_succ]; rfl) (by rfl) ?_; simp only [Act.put, List.setIfInBounds_toArray, List.set_cons_zero, List.set_cons_succ]))
        refine plan_nil ?_
        go_wp2_with fail
        go_ret
        exact ⟨rfl, hE0.trans (grow_ext _)⟩
    · (refine plan_loud (by simp only [List.getElem?_toArray, List.getElem?_cons_zero, List.getElem?_cons_succ]; rfl) (by rfl) (by rfl) (fun K E hK => ?_); go_big_op)
      obtain ⟨y8, hy8⟩ := more_of ((grow_ext y0).alloc (.cells #[.string (bs b)] 9))
      have h12 : Rd ((grow w0 y0).alloc (.cells #[.string (bs b)] 9)) ((grow w0 y0).alloc (.cells #[.string (bs b)] 9)).heap.size (some ⟨(grow w0 y0).heap.size, 0, none⟩) ([b].map strV) := Blk.rd (Blk.new _ _ _)
      rw [hy8] at h12 ⊢
      clear hy8; generalize (grow w0 y0).heap.size = g12 at *
      refine hK _ _ ⟨_, rfl⟩ ?_; clear hK K E
      refine plan_one ?_
      (refine plan_loud (by simp only [List.getElem?_toArray, List.getElem?_cons_zero, List.getElem?_cons_succ]; rfl) (by rfl) (by rfl) (fun K E hK => ?_); go_big_op)
      obtain ⟨y9, hy9⟩ := more_of ((grow_ext y8).alloc (.cells #[.string (bs a)] 9))
      have h8 : Rd ((grow w0 y8).alloc (.cells #[.string (bs a)] 9)) ((grow w0 y8).alloc (.cells #[.string (bs a)] 9)).heap.size (some ⟨(grow w0 y8).heap.size, 0, none⟩) ([a].map strV) := Blk.rd (Blk.new _ _ _)
      replace h12 := (h12.below ((Ext.refl _).alloc (.cells #[.string (bs a)] 9)) (Nat.le_refl _)).more ((Ext.refl _).alloc (.cells #[.string (bs a)] 9)).size
      rw [hy9] at h8 h12 ⊢
      clear hy9; generalize (grow w0 y8).heap.size = g8 at *
      refine hK _ _ ⟨_, rfl⟩ ?_; clear hK K E
      refine plan_one ?_
      (refine plan_loud (by simp only [List.getElem?_toArray, List.getElem?_cons_zero, List.getElem?_cons_succ]; rfl) (by rfl) (by rfl) (fun K E hK => ?_); go_big_op)
      refine (Of_calls [a] _ 1 (grow w0 y9) (hKs _) h8 (by simp) (by rw [hj1]; omega)).mono ?_; rw [hj1]; unfold sumV; rintro e w3 ⟨rfl, hd⟩
      replace h12 := (h12.below hd (Nat.le_refl _)).more hd.size
      obtain ⟨y10, rfl⟩ := more_ext y9 hd; clear hd
      refine hK _ _ ⟨_, rfl⟩ ?_; clear hK K E
      clear h8
      refine plan_one ?_
      (refine plan_loud (by simp only [List.getElem?_toArray, List.getElem?_cons_zero, List.getElem?_cons_succ]; rfl) (by rfl) (by rfl) (fun K E hK => ?_); go_big_op)
      refine (Of_calls [b] _ 1 (grow w0 y10) (hKs _) h12 (by simp) (by rw [hj2]; omega)).mono ?_; rw [hj2]; unfold sumV; rintro e w3 ⟨rfl, hd⟩
      obtain ⟨y11, rfl⟩ := more_ext y10 hd; clear hd
      refine hK _ _ ⟨_, rfl⟩ ?_; clear hK K E
      clear h12
      iterate 3 (first | (refine plan_quiet (by simp only [List.getElem?_toArray, List.getElem?_cons_zero, List.getElem?_cons_succ]; rfl) (by rfl) (by rfl) (fun K hK => ?_); go_big_quiet_op; refine hK _ ?_; clear hK K) | (refine plan_skip (by simp only [List.getElem?_toArray, List.getElem?_cons_zero, List.getElem?_cons_succ]; rfl) (by rfl) ?_; simp only [Act.put, List.setIfInBounds_toArray, List.set_cons_zero, List.set_cons_succ]))
      refine plan_nil ?_
      go_wp2_with fail
      go_ret
      exact ⟨rfl, hE0.trans (grow_ext _)⟩

/-- The first twins, or none yet. -/
def turnT (s t : List UInt8) (f : List UInt8 × List UInt8) : List UInt8 × List UInt8 := if areB s t then (s, t) else f

set_option maxHeartbeats 2000000 in
theorem firstTurn_calls (s t : List UInt8) (hs : s.length ≤ 4611686018427380000) (ht : t.length ≤ 4611686018427380000) (g : Nat) (w : World) (KW : Keys w) (hF : Blk w g 57 #[.string (bs []), .string (bs [])]) :
    Calls Tryd.prog 78 #[.string (bs s), .string (bs t), .pointer (some ⟨g, 0, none⟩)] w fun e w' => e = .returned (.bool (!areB s t)) ∧ (if areB s t then Blk w' g 57 #[.string (bs s), .string (bs t)] else Blk w' g 57 #[.string (bs []), .string (bs [])]) ∧ Upd g w w' := by
  have hgw := guard_twins
  have hhw := held_twins
  have hgl := hF.lt
  have hW := Blk.alloc hF (.cells #[.string (bs s), .string (bs t)] 57)
  have hN := Blk.new w 57 #[.string (bs s), .string (bs t)]
  have hE := (Ext.refl w).alloc (.cells #[.string (bs s), .string (bs t)] 57)
  obtain ⟨g0, hg0⟩ : ∃ g0, g0 = w.heap.size := ⟨_, rfl⟩
  rw [← hg0] at hN
  have hgg : g ≠ g0 := by omega
  by_cases har : areB s t = true
  · have hne : s ≠ t := fun h => by rw [h, areB_same] at har; cases har
    have HA := Lib.hid har
    rw [har]
    clear har
    simp only [if_true]
    go_enter Tryd.func78, Tryd.ntmps78
    go_wp2_with fail
    rw [← hg0] at *
    generalize w.alloc (.cells #[.string (bs s), .string (bs t)] 57) = w1 at *
    refine (Are_calls s t hs ht _ (KW.ext hE)).mono ?_; rw [HA.out]; rintro e w2 ⟨rfl, e2⟩
    have hN2 := Blk.below hN e2 (Blk.lt hN)
    have hW2 := Blk.below hW e2 (Blk.lt hW)
    have c0 : w2.cell? ⟨g0, 0, none⟩ = some (.string (bs s)) := Blk.cell hN2 0
    have c1 : w2.cell? ⟨g0, 1, none⟩ = some (.string (bs t)) := Blk.cell hN2 1
    have d0 : w2.cell? ⟨g, 0, none⟩ = some (.string (bs [])) := Blk.cell hW2 0
    have d1 : w2.cell? ⟨g, 1, none⟩ = some (.string (bs [])) := Blk.cell hW2 1
    have f0 := hW2.frozen 0
    have f1 := hW2.frozen 1
    have hg2 := hW2.lt
    have hU : Upd g w w2 := (Upd.of_ext hE).ext e2
    clear hN hW hN2 hE e2
    go_wp2_with fail
    all_goals (try subst_vars)
    all_goals first
      | exact absurd rfl hne
      | (go_ret
         exact ⟨rfl, (Blk.set_ (Blk.set_ hW2 0 _) 1 _), (hU.setCell (.inl rfl) _).setCell (.inl rfl) _⟩)
  · have har := (Bool.not_eq_true _).mp har
    have HA := Lib.hid har
    rw [har]
    clear har
    simp only [Bool.false_eq_true, if_false]
    go_enter Tryd.func78, Tryd.ntmps78
    go_wp2_with fail
    rw [← hg0] at *
    generalize w.alloc (.cells #[.string (bs s), .string (bs t)] 57) = w1 at *
    refine (Are_calls s t hs ht _ (KW.ext hE)).mono ?_; rw [HA.out]; rintro e w2 ⟨rfl, e2⟩
    have hN2 := Blk.below hN e2 (Blk.lt hN)
    have hW2 := Blk.below hW e2 (Blk.lt hW)
    have c0 : w2.cell? ⟨g0, 0, none⟩ = some (.string (bs s)) := Blk.cell hN2 0
    have c1 : w2.cell? ⟨g0, 1, none⟩ = some (.string (bs t)) := Blk.cell hN2 1
    have d0 : w2.cell? ⟨g, 0, none⟩ = some (.string (bs [])) := Blk.cell hW2 0
    have d1 : w2.cell? ⟨g, 1, none⟩ = some (.string (bs [])) := Blk.cell hW2 1
    have f0 := hW2.frozen 0
    have f1 := hW2.frozen 1
    have hg2 := hW2.lt
    have hU : Upd g w w2 := (Upd.of_ext hE).ext e2
    clear hN hW hN2 hE e2
    go_wp2_with fail
    all_goals (try subst_vars)
    all_goals first
      | (go_ret
         exact ⟨rfl, hW2, hU⟩)

end Go.Proofs.YtfpipdopgepelaaDoor
