/-
  scriniumlaw15.RecordReads: any bytes are read as the document says.
-/
import Derived.Test.YtnpmojfjoemelaaRec5
set_option linter.unusedVariables false
set_option linter.unusedSimpArgs false
namespace Go.Proofs.Ytnpmojfjoemelaa.recordReads
open Go.ChangeShapes Go.WideShapes Go.ChangeAt Go.RowKit
attribute [local go_sem] bs_size bs_toList2 bs_append bs_extract_end bs_extract_begin bs_get wrap64_b

theorem rows_len (win : Int) (s : List UInt8) : (Rc.rows win s).1.length ≤ 4000 := by
  have h : ∀ f k x l, Rc.prs win f k x = some l → k ≤ 4000 → k + l.length ≤ 4000 := by
    intro f
    induction f with
    | zero => intro k x l h; cases h
    | succ f ih =>
      intro k x l h hk
      by_cases h0 : x.leftN = 0
      · rw [Rc.prs_end _ _ _ _ h0] at h
        split at h
        · injection h with h; subst h; simpa using hk
        · cases h
      · by_cases hw : 0 ≤ win ∧ win ≤ 1125899906842624 ∧ k ≤ 3999
        · rw [Rc.prs_go _ _ _ _ h0 hw] at h
          obtain ⟨l', h1, rfl⟩ := Option.map_eq_some_iff.1 h
          have := ih _ _ _ h1 (by omega)
          simp only [List.length_cons]
          omega
        · rw [Rc.prs_bad _ _ _ _ h0 hw] at h; cases h
  unfold Rc.rows
  split
  · rename_i l hl
    have := h _ _ _ _ hl (Nat.zero_le _)
    simpa using this
  · simp

set_option maxHeartbeats 2000000 in
set_option maxRecDepth 100000 in
theorem walk (s0 : List UInt8) (win : Int) (w : World) (hs : s0.length ≤ 9223372036854775807) :
    Calls Try.prog 15 #[.string (bs s0), .int .i64 win] w fun e w' => e = .returned (.bool true) ∧ Ext w w' := by
  go_enter Try.func15, Try.ntmps15
  go_wp2_with fail
  refine (awake15_calls _).mono ?_; rintro e w1 ⟨rfl, e1⟩
  go_wp2_with fail
  refine (short15_calls s0 2100 _ hs (by omega)).mono ?_; rintro e w1 ⟨rfl, rfl⟩
  have hsl : (s0.take 2100).length ≤ 2100 := by simp; omega
  generalize s0.take 2100 = s at *
  have hrl := rows_len win s
  go_wp2_with fail
  refine (recRead_calls s _ (by omega)).mono ?_; rintro e w2 ⟨rfl, e2⟩
  have HRR := Lib.hid (refRead_calls s)
  have HR1 := Lib.hid (recRows_calls win s)
  have HR2 := Lib.hid (refRows_calls win s)
  generalize Rc.read s = rr at *
  generalize Rc.rows win s = ro at *
  obtain ⟨r, ec⟩ := rr
  obtain ⟨l, el⟩ := ro
  unfold Rc.v
  go_wp2_with fail
  refine (HRR.out _ (by omega)).mono ?_; rintro e w3 ⟨rfl, e3⟩
  unfold Rc.v
  have hA3 : RecAt w3 w2.heap.size r := RecAt.ext (Blk.new w2 _ _) e3
  have E3 : Ext w w3 := ((e1.trans e2).alloc _).trans e3
  clear e1 e2 e3
  go_wp2_with fail
  refine (HR1.out _ (by omega)).mono ?_; rintro e w4 ⟨A4, c4, rfl, hF4, e4⟩
  have hA4 := RecAt.ext (Blk.alloc hA3 _) e4
  have hB4 : RecAt w4 w3.heap.size r := RecAt.ext (Blk.new w3 _ _) e4
  have E4 : Ext w w4 := (E3.alloc _).trans e4
  clear hA3 E3 e4
  go_wp2_with fail
  refine (HR2.out _ (by omega)).mono ?_; rintro e w5 ⟨A5, c5, rfl, hF5, e5⟩
  have hA5 := RecAt.ext hA4 e5
  have hB5 := RecAt.ext hB4 e5
  have hF45 := hF4.ext e5
  have E5 := E4.trans e5
  clear hA4 hB4 E4 e5 hF4
  go_wp2_with fail
  refine (Same15_calls w5.heap.size A4 A5 c4 c5 l _ hF45.rd hF5.rd (Nat.le_refl _) (by omega)).mono ?_; rintro e w6 ⟨rfl, e6⟩
  have hA6 := RecAt.ext hA5 e6
  have hB6 := RecAt.ext hB5 e6
  have E6 := E5.trans e6
  clear hA5 hB5 E5 e6
  obtain ⟨a0, a1, a2, a3⟩ := hA6.cells
  obtain ⟨b0, b1, b2, b3⟩ := hB6.cells
  clear hA6 hB6
  go_wp2_with fail
  go_ret
  exact ⟨rfl, E6⟩

set_option maxRecDepth 100000 in
theorem lifted (os : Os) (started : os.Started) (H : Type) (enc : TypeId × Value → H) :
    ReturnsInHanded {} Try.checked os 15 .any (Rows.recordReadsSpec.pre6 enc Try.prog Try.f15 Rows.recordReadsRow.domain false) (Rows.recordReadsSpec.post enc Try.prog Try.f15 false true false false) := by
  refine returnsInHanded_of_change (C := Try.checked) own_ started (by kernel_rfl) Try.func15
    (ChangeSpec.witness6 (enc := enc) (C := Try.checked) false ⟨#[], #[.string .empty, .int .i64 0], []⟩ 8 (by kernel_rfl) (by kernel_rfl) (by kernel_rfl) (by kernel_rfl)) ?_
  intro W base args ds gs before hval0 hW hcnd _
  have hval : ∀ (j : Nat) t v, Try.f15.params[j]? = some t → args[j]? = some v → Value.okWide Try.prog W .any base t v := hval0
  have hW' := hW
  obtain ⟨p, q, hA0, hV, rfl, hfz, hnd⟩ := hW
  have hA : DataW.TrodAll enc Try.prog W 0 (fun _ => true) true Try.f15.params.toList args.toList ds p := hA0
  rw [Try.params15] at hA hval
  obtain ⟨v0, vs0, d0, ds0, p0, q0, hargs, rfl, rfl, hx0, r0⟩ := trodAll_cons hA
  obtain ⟨v1, vs1, d1, ds1, p1, q1, rfl, rfl, rfl, hx1, r1⟩ := trodAll_cons r0
  obtain ⟨rfl, rfl, rfl⟩ := trodAll_nil r1
  obtain rfl : args = #[v0, v1] := by cases args; simp_all
  obtain ⟨rfl, rfl⟩ := trodVars_none hV
  obtain ⟨s, rfl, hs⟩ := op_str (hval 0 9 v0 rfl rfl) (tr_of hx0)
  obtain ⟨window, rfl, hwindow0, hwindow1⟩ := op_int (hval 1 3 v1 rfl rfl) (tr_of hx1)
  refine (walk s window W hs).mono fun e W' ⟨he, hg⟩ => ?_
  subst he
  exact ⟨_, rfl, law_post hW' rfl rfl (by kernel_rfl) rfl rfl rfl hg⟩

theorem over : Rows.recordReadsRow.holds Try.pinned (OpenSpec.ofChange Rows.recordReadsSpec) :=
  OpenClaim.holds_of_wide 15 Try.f15 rfl rfl rfl rfl rfl rfl rfl ⟨rfl, rfl, rfl, rfl, rfl⟩ rfl rfl rfl rfl rfl (by kernel_rfl) Try.func15 (by kernel_rfl)
    (of_decide_eq_true (by kernel_rfl)) (by unfold Func.isWrapper; first | (rw [if_pos (by decide +kernel)]; kernel_rfl) | (rw [if_neg (by decide +kernel)]; exact ⟨rfl, rfl⟩))
    (fun os started H enc _ => lifted os started H enc)

theorem proved : Rows.RecordReadsSaid := over

end Go.Proofs.Ytnpmojfjoemelaa.recordReads
