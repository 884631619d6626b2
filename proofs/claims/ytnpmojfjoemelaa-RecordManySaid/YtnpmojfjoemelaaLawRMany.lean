/-
  scriniumlaw15.RecordMany: a row has at most 4000 records.
-/
import Derived.Test.YtnpmojfjoemelaaRec5
set_option linter.unusedVariables false
set_option linter.unusedSimpArgs false
namespace Go.Proofs.Ytnpmojfjoemelaa.recordMany
open Go.ChangeShapes Go.WideShapes Go.ChangeAt Go.RowKit
attribute [local go_sem] bs_size bs_toList2 bs_append bs_extract_end bs_extract_begin bs_get wrap64_b

/-- Records of no bytes, from number i on. -/
def zs (i : Nat) : Nat → List Rc
  | 0 => []
  | k + 1 => ⟨5, i, 0, []⟩ :: zs (i + 1) k
theorem zs_length (i k : Nat) : (zs i k).length = k := by
  induction k generalizing i with
  | zero => rfl
  | succ k ih => simp [zs, ih]
theorem zs_get (i k j : Nat) (h : j < (zs i k).length) : (zs i k)[j] = ⟨5, (i + j : Nat), 0, []⟩ := by
  induction k generalizing i j with
  | zero => simp [zs] at h
  | succ k ih =>
    cases j with
    | zero => simp [zs]
    | succ j =>
      simp only [zs, List.getElem_cons_succ]
      rw [ih]
      congr 2
      omega
theorem two (k : Nat) : List.replicate (2 * (k + 1)) (0 : UInt8) = 0 :: 0 :: List.replicate (2 * k) 0 := by
  rw [show 2 * (k + 1) = 2 * k + 1 + 1 from by omega, List.replicate_succ, List.replicate_succ]
theorem num0 (r : List UInt8) : Oct.Sc.num ⟨0 :: r, false⟩ 1125899906842624 = (0, ⟨r, false⟩) := by
  have h := Oct.num_put 0 (by omega) r 1125899906842624 (by omega)
  exact h
theorem text0 (r : List UInt8) : Oct.Sc.text ⟨0 :: r, false⟩ 2000 = ([], ⟨r, false⟩) := by
  have h := Oct.text_put [] (by simp) r 2000 (by simp)
  exact h
theorem prs_zs (k i f : Nat) (hf : 2 * k < f) : Rc.prs 5 f i ⟨List.replicate (2 * k) 0, false⟩ = if i + k ≤ 4000 ∨ k = 0 then some (zs i k) else none := by
  induction k generalizing i f with
  | zero =>
    obtain ⟨f, rfl⟩ : ∃ f', f = f' + 1 := ⟨f - 1, by omega⟩
    rw [Rc.prs_end _ _ _ _ rfl]
    simp [Oct.Sc.endE, zs]
  | succ k ih =>
    obtain ⟨f, rfl⟩ : ∃ f', f = f' + 1 := ⟨f - 1, by omega⟩
    by_cases hi : i ≤ 3999
    · rw [Rc.prs_go _ _ _ _ (by simp [Oct.Sc.leftN]) ⟨by omega, by omega, hi⟩, two, num0]
      simp only
      rw [text0]
      simp only
      rw [ih (i + 1) f (by omega)]
      by_cases hk : i + 1 + k ≤ 4000 ∨ k = 0
      · rw [if_pos hk, if_pos (by omega)]; rfl
      · rw [if_neg hk, if_neg (by omega)]; rfl
    · rw [Rc.prs_bad _ _ _ _ (by simp [Oct.Sc.leftN]) (by omega), if_neg (by omega)]
theorem rows_zs (k : Nat) (hk : k ≠ 0) : Rc.rows 5 (List.replicate (2 * k) 0) = if k ≤ 4000 then (zs 0 k, 0) else ([], 10) := by
  unfold Rc.rows
  rw [prs_zs k 0 _ (by simp)]
  by_cases h : k ≤ 4000
  · rw [if_pos (by omega), if_pos h]
  · rw [if_neg (by omega), if_neg h]

set_option maxHeartbeats 2000000 in
set_option maxRecDepth 100000 in
theorem walk (n : Int) (w : World) (h0 : -9223372036854775808 ≤ n) (h1 : n ≤ 9223372036854775807) :
    Calls Try.prog 14 #[.int .i64 n] w fun e w' => e = .returned (.bool true) ∧ Ext w w' := by
  obtain ⟨i0, hi, hz0, hz1, hz2⟩ := info_parts info_u8
  go_enter Try.func14, Try.ntmps14
  go_wp2_with fail
  refine (awake15_calls _).mono ?_; rintro e w1 ⟨rfl, e1⟩
  obtain ⟨m, hm, hm20⟩ : ∃ m : Nat, (m : Int) = (n.tmod 21).natAbs ∧ m ≤ 20 := by
    refine ⟨(n.tmod 21).natAbs, rfl, ?_⟩
    have a := Int.tmod_lt_of_pos n (b := 21) (by omega)
    have b := Int.lt_tmod_of_pos n (b := 21) (by omega)
    omega
  rcases (show n.tmod 21 = -(m : Int) ∧ n.tmod 21 < 0 ∨ n.tmod 21 = (m : Int) ∧ ¬ n.tmod 21 < 0 from by omega) with ⟨hr, hs⟩ | ⟨hr, hs⟩
  all_goals
    rw [hr] at hs
    clear hm
    go_wp2_with (at_make; refine wpList_make_full _ rfl _ _ 71 rfl w1.heap.size 5 i0 (.int .u8 0) 1 Try.underlying71 hi hz0 hz1 .i64 .i64 _ _ (2 * (m + 3990)) rfl rfl (by omega) (by omega) (by rw [hz2]; omega) (by unfold maxLen; omega) (Nat.le_refl _) ?_; intro w2 hown2 hgrow2; rw [made_bytes] at hown2; have hB2 := blk_of_own hown2 (by omega); have hcv := conv_bytes w2 _ _ (List.replicate (2 * (m + 3990)) 0) (2 * (m + 3990)) (2 * (m + 3990)) (by simp) hB2.rd; have e2 : Ext w1 w2 := (Ext.refl w1).grown hgrow2 (Nat.le_refl _) (by simp); clear hown2 hgrow2 hB2)
    clear hcv
    refine (recRows_calls 5 (List.replicate (2 * (m + 3990)) 0) _ (by simp; omega)).mono ?_; rintro e w3 ⟨A, c, rfl, hF, e3⟩
    have E3 := (e1.trans e2).trans e3
    have hro := rows_zs (m + 3990) (by omega)
    clear e1 e2 e3
    by_cases hk : m + 3990 ≤ 4000
    · rw [if_pos hk] at hro
      rw [hro] at hF ⊢
      obtain ⟨b, off, rfl, -, c0, -, -, -⟩ := rec_cells (l := zs 0 (m + 3990)) hF.rd (k := 0) (by rw [zs_length]; omega)
      obtain ⟨b', off', he, -, -, c1, -, -⟩ := rec_cells (l := zs 0 (m + 3990)) hF.rd (k := m + 3989) (by rw [zs_length]; omega)
      injection he with he
      injection he with he1 he2
      subst he1 he2
      simp only [zs_get, Nat.zero_add, Nat.zero_mul, Nat.add_zero] at c0 c1
      have hk1 : (m : Int) + 3990 ≤ 4000 := by omega
      clear hro hF
      dsimp only
      rw [zs_length]
      go_wp2_with fail
      all_goals
        first
          | (go_ret; exact ⟨rfl, E3⟩)
          | (exfalso; omega)
    · rw [if_neg hk] at hro
      rw [hro]
      have hk1 : 4000 < (m : Int) + 3990 := by omega
      clear hro hF
      go_wp2_with fail
      go_ret
      exact ⟨rfl, E3⟩

set_option maxRecDepth 100000 in
theorem lifted (os : Os) (started : os.Started) (H : Type) (enc : TypeId × Value → H) :
    ReturnsInHanded {} Try.checked os 14 .any (Rows.recordManySpec.pre6 enc Try.prog Try.f14 Rows.recordManyRow.domain false) (Rows.recordManySpec.post enc Try.prog Try.f14 false true false false) := by
  refine returnsInHanded_of_change (C := Try.checked) own_ started (by kernel_rfl) Try.func14
    (ChangeSpec.witness6 (enc := enc) (C := Try.checked) false ⟨#[], #[.int .i64 0], []⟩ 8 (by kernel_rfl) (by kernel_rfl) (by kernel_rfl) (by kernel_rfl)) ?_
  intro W base args ds gs before hval0 hW hcnd _
  have hval : ∀ (j : Nat) t v, Try.f14.params[j]? = some t → args[j]? = some v → Value.okWide Try.prog W .any base t v := hval0
  have hW' := hW
  obtain ⟨p, q, hA0, hV, rfl, hfz, hnd⟩ := hW
  have hA : DataW.TrodAll enc Try.prog W 0 (fun _ => true) true Try.f14.params.toList args.toList ds p := hA0
  rw [Try.params14] at hA hval
  obtain ⟨v0, vs0, d0, ds0, p0, q0, hargs, rfl, rfl, hx0, r0⟩ := trodAll_cons hA
  obtain ⟨rfl, rfl, rfl⟩ := trodAll_nil r0
  obtain rfl : args = #[v0] := by cases args; simp_all
  obtain ⟨rfl, rfl⟩ := trodVars_none hV
  obtain ⟨n, rfl, hn0, hn1⟩ := op_int (hval 0 3 v0 rfl rfl) (tr_of hx0)
  refine (walk n W hn0 hn1).mono fun e W' ⟨he, hg⟩ => ?_
  subst he
  exact ⟨_, rfl, law_post hW' rfl rfl (by kernel_rfl) rfl rfl rfl hg⟩

theorem over : Rows.recordManyRow.holds Try.pinned (OpenSpec.ofChange Rows.recordManySpec) :=
  OpenClaim.holds_of_wide 14 Try.f14 rfl rfl rfl rfl rfl rfl rfl ⟨rfl, rfl, rfl, rfl, rfl⟩ rfl rfl rfl rfl rfl (by kernel_rfl) Try.func14 (by kernel_rfl)
    (of_decide_eq_true (by kernel_rfl)) (by unfold Func.isWrapper; first | (rw [if_pos (by decide +kernel)]; kernel_rfl) | (rw [if_neg (by decide +kernel)]; exact ⟨rfl, rfl⟩))
    (fun os started H enc _ => lifted os started H enc)

theorem proved : Rows.RecordManySaid := over

end Go.Proofs.Ytnpmojfjoemelaa.recordMany
