/-
  scriniumlaw15.RecordOne: no two records that may be have the same bytes.
-/
import Derived.Test.YtnpmojfjoemelaaRec2
set_option linter.unusedVariables false
set_option linter.unusedSimpArgs false
namespace Go.Proofs.Ytnpmojfjoemelaa.recordOne
open Go.ChangeShapes Go.WideShapes Go.ChangeAt Go.RowKit
attribute [local go_sem] bs_size bs_toList2 bs_append bs_extract_end bs_extract_begin bs_get wrap64_b

set_option maxHeartbeats 2000000 in
set_option maxRecDepth 100000 in
theorem walk (a b : Rc) (w : World) (ha : a.pay.length ≤ 9223372036854775807) (hb : b.pay.length ≤ 9223372036854775807) :
    Calls Try.prog 4 #[a.v, b.v] w fun e w' => e = .returned (.bool true) ∧ Ext w w' := by
  unfold Rc.v
  go_enter Try.func4, Try.ntmps4
  go_wp2_with fail
  refine (awake15_calls _).mono ?_; rintro e w1 ⟨rfl, e1⟩
  have hA1 : RecAt w1 w.heap.size a := Blk.below (Blk.alloc (Blk.new w _ _) _) e1 (by simp; omega)
  have hB1 : RecAt w1 (w.heap.size + 1) b := Blk.below (by have := Blk.new (w.alloc (.cells #[.int .i64 a.win, .int .i64 a.idx, .int .i64 a.time, .string (bs a.pay)] 28)) 28 #[.int .i64 b.win, .int .i64 b.idx, .int .i64 b.time, .string (bs b.pay)]; simpa using this) e1 (by simp)
  have E1 : Ext w w1 := (((Ext.refl w).alloc _).alloc _).trans e1
  clear e1
  obtain ⟨c0, c1, c2, c3⟩ := hA1.cells
  go_wp2_with fail
  refine (small_calls a _ ha).mono ?_; rintro e w2 ⟨rfl, e2⟩
  have hA2 := hA1.ext e2
  have hB2 := hB1.ext e2
  obtain ⟨f0, f1, f2, f3⟩ := hA2.frozen
  obtain ⟨d0, d1, d2, d3⟩ := hA2.cells
  obtain ⟨b0, b1, b2, b3⟩ := hB2.cells
  unfold Rc.v
  clear c0 c1 c2 c3
  go_wp2_with fail
  refine (small_calls b _ hb).mono ?_; rintro e w3 ⟨rfl, e3⟩
  have hA3 := (hA2.store a.small).ext e3
  have hB3 : RecAt w3 (w.heap.size + 1) b := RecAt.ext (Blk.far (Blk.far (Blk.far (Blk.far hB2 (p := ⟨w.heap.size, 0, none⟩) (by simp) (.int .i64 a.small.win)) (p := ⟨w.heap.size, 1, none⟩) (by simp) (.int .i64 a.small.idx)) (p := ⟨w.heap.size, 2, none⟩) (by simp) (.int .i64 a.small.time)) (p := ⟨w.heap.size, 3, none⟩) (by simp) (.string (bs a.small.pay))) e3
  have E3 : Ext w w3 := (((((E1.trans e2).setCell (p := ⟨w.heap.size, 0, none⟩) (Nat.le_refl _) (.int .i64 a.small.win)).setCell (p := ⟨w.heap.size, 1, none⟩) (Nat.le_refl _) (.int .i64 a.small.idx)).setCell (p := ⟨w.heap.size, 2, none⟩) (Nat.le_refl _) (.int .i64 a.small.time)).setCell (p := ⟨w.heap.size, 3, none⟩) (Nat.le_refl _) (.string (bs a.small.pay))).trans e3
  clear f0 f1 f2 f3 d0 d1 d2 d3 b0 b1 b2 b3 hA2 hB2 hA1 hB1 e2 e3 E1
  obtain ⟨f0, f1, f2, f3⟩ := hB3.frozen
  obtain ⟨d0, d1, d2, d3⟩ := hA3.cells
  obtain ⟨b0, b1, b2, b3⟩ := hB3.cells
  unfold Rc.v
  have hpa : a.small.pay.length ≤ 2010 := by simp [Rc.small]; omega
  have hpb : b.small.pay.length ≤ 2010 := by simp [Rc.small]; omega
  generalize a.small = x at *
  generalize b.small = y at *
  go_wp2_with fail
  refine (recBytes_calls x _ (by omega)).mono ?_; rintro e w4 ⟨rfl, e4⟩
  have hB4 : RecAt w4 (w.heap.size + 1) y := (hB3.store y).ext e4
  have hA4 : RecAt w4 w.heap.size x := RecAt.ext (Blk.far (Blk.far (Blk.far (Blk.far hA3 (p := ⟨w.heap.size + 1, 0, none⟩) (by simp) (.int .i64 y.win)) (p := ⟨w.heap.size + 1, 1, none⟩) (by simp) (.int .i64 y.idx)) (p := ⟨w.heap.size + 1, 2, none⟩) (by simp) (.int .i64 y.time)) (p := ⟨w.heap.size + 1, 3, none⟩) (by simp) (.string (bs y.pay))) e4
  have E4 : Ext w w4 := ((((E3.setCell (p := ⟨w.heap.size + 1, 0, none⟩) (Nat.le_succ _) (.int .i64 y.win)).setCell (p := ⟨w.heap.size + 1, 1, none⟩) (Nat.le_succ _) (.int .i64 y.idx)).setCell (p := ⟨w.heap.size + 1, 2, none⟩) (Nat.le_succ _) (.int .i64 y.time)).setCell (p := ⟨w.heap.size + 1, 3, none⟩) (Nat.le_succ _) (.string (bs y.pay))).trans e4
  clear f0 f1 f2 f3 d0 d1 d2 d3 b0 b1 b2 b3 hA3 hB3 e4 E3
  have H1 : ((x.check == 0) = true ∧ (x.check != 0) = false ∧ (if x.check = 0 then x.bytes else []) = x.bytes ∧ x.check = 0) ∨ ((x.check == 0) = false ∧ (x.check != 0) = true ∧ (if x.check = 0 then x.bytes else []) = []) := by
    by_cases h : x.check = 0
    · exact .inl ⟨by simp [h], by simp [h], by simp [h], h⟩
    · exact .inr ⟨by simp [h], by simp [h], by simp [h]⟩
  have H2 : ((y.check == 0) = true ∧ (y.check != 0) = false ∧ (if y.check = 0 then y.bytes else []) = y.bytes ∧ y.check = 0) ∨ ((y.check == 0) = false ∧ (y.check != 0) = true ∧ (if y.check = 0 then y.bytes else []) = []) := by
    by_cases h : y.check = 0
    · exact .inl ⟨by simp [h], by simp [h], by simp [h], h⟩
    · exact .inr ⟨by simp [h], by simp [h], by simp [h]⟩
  have HO := Lib.hid (Rc.bytes_one x y)
  generalize hsx : (if x.check = 0 then x.bytes else []) = sx at *
  clear hsx
  generalize x.check = cx at *
  obtain ⟨b0, b1, b2, b3⟩ := hB4.cells
  go_wp2_with fail
  refine (recBytes_calls y _ (by omega)).mono ?_; rintro e w5 ⟨rfl, e5⟩
  generalize hsy : (if y.check = 0 then y.bytes else []) = sy at *
  clear hsy
  generalize y.check = cy at *
  have hA5 := hA4.ext e5
  have hB5 := hB4.ext e5
  have E5 := E4.trans e5
  clear b0 b1 b2 b3 hA4 hB4 e5 E4
  obtain ⟨d0, d1, d2, d3⟩ := hA5.cells
  obtain ⟨b0, b1, b2, b3⟩ := hB5.cells
  rcases H1 with ⟨p1, p2, p3, p4⟩ | ⟨p1, p2, p3⟩ <;> rcases H2 with ⟨q1, q2, q3, q4⟩ | ⟨q1, q2, q3⟩
  · have HO1 := Lib.hid (HO.out p4 q4)
    clear HO p4 q4
    rw [p3, q3]
    go_wp2_with fail
    all_goals clear p1 p2 q1 q2 p3 q3 d0 d1 d2 d3 b0 b1 b2 b3 hA5 hB5
    all_goals
      go_ret
      refine ⟨ret_bool ?_, E5⟩
      first
        | (have hxy : x ≠ y := by
             rintro rfl
             simp at *
           have hb : (x.bytes == y.bytes) = false := by
             rw [beq_eq_false_iff_ne]
             exact fun e => hxy (HO1.out e)
           rw [hb]; rfl)
        | (obtain rfl : x = y := by
             obtain ⟨x1, x2, x3, x4⟩ := x
             obtain ⟨y1, y2, y3, y4⟩ := y
             simp_all
           simp)
  all_goals
    clear HO
    rw [p3, q3]
    go_wp2_with fail
    go_ret
    exact ⟨rfl, E5⟩

set_option maxRecDepth 100000 in
theorem lifted (os : Os) (started : os.Started) (H : Type) (enc : TypeId × Value → H) :
    ReturnsInHanded {} Try.checked os 4 .any (Rows.recordOneSpec.pre6 enc Try.prog Try.f4 Rows.recordOneRow.domain false) (Rows.recordOneSpec.post enc Try.prog Try.f4 false true false false) := by
  refine returnsInHanded_of_change (C := Try.checked) own_ started (by kernel_rfl) Try.func4
    (ChangeSpec.witness6 (enc := enc) (C := Try.checked) false ⟨#[], #[.agg #[.int .i64 0, .int .i64 0, .int .i64 0, .string .empty], .agg #[.int .i64 0, .int .i64 0, .int .i64 0, .string .empty]], []⟩ 8 (by kernel_rfl) (by kernel_rfl) (by kernel_rfl) (by kernel_rfl)) ?_
  intro W base args ds gs before hval0 hW hcnd _
  have hval : ∀ (j : Nat) t v, Try.f4.params[j]? = some t → args[j]? = some v → Value.okWide Try.prog W .any base t v := hval0
  have hW' := hW
  obtain ⟨p, q, hA0, hV, rfl, hfz, hnd⟩ := hW
  have hA : DataW.TrodAll enc Try.prog W 0 (fun _ => true) true Try.f4.params.toList args.toList ds p := hA0
  rw [Try.params4] at hA hval
  obtain ⟨v0, vs0, d0, ds0, p0, q0, hargs, rfl, rfl, hx0, r0⟩ := trodAll_cons hA
  obtain ⟨v1, vs1, d1, ds1, p1, q1, rfl, rfl, rfl, hx1, r1⟩ := trodAll_cons r0
  obtain ⟨rfl, rfl, rfl⟩ := trodAll_nil r1
  obtain rfl : args = #[v0, v1] := by cases args; simp_all
  obtain ⟨rfl, rfl⟩ := trodVars_none hV
  obtain ⟨a, rfl, haf, ha⟩ := op_rec (hval 0 28 v0 rfl rfl) (tr_of hx0)
  obtain ⟨b, rfl, hbf, hb⟩ := op_rec (hval 1 28 v1 rfl rfl) (tr_of hx1)
  refine (walk a b W ha hb).mono fun e W' ⟨he, hg⟩ => ?_
  subst he
  exact ⟨_, rfl, law_post hW' rfl rfl (by kernel_rfl) rfl rfl rfl hg⟩

theorem over : Rows.recordOneRow.holds Try.pinned (OpenSpec.ofChange Rows.recordOneSpec) :=
  OpenClaim.holds_of_wide 4 Try.f4 rfl rfl rfl rfl rfl rfl rfl ⟨rfl, rfl, rfl, rfl, rfl⟩ rfl rfl rfl rfl rfl (by kernel_rfl) Try.func4 (by kernel_rfl)
    (of_decide_eq_true (by kernel_rfl)) (by unfold Func.isWrapper; first | (rw [if_pos (by decide +kernel)]; kernel_rfl) | (rw [if_neg (by decide +kernel)]; exact ⟨rfl, rfl⟩))
    (fun os started H enc _ => lifted os started H enc)

theorem proved : Rows.RecordOneSaid := over

end Go.Proofs.Ytnpmojfjoemelaa.recordOne
