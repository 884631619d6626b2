/-
  scriniumlaw01.OctetCuts: cut short anywhere what was put is not read whole. No condition.
-/
import Derived.Test.YtnpmojfjoemelaaOpen
import Derived.Test.YtnpmojfjoemelaaL01
import Derived.Test.YtnpmojfjoemelaaOctA
set_option linter.unusedVariables false
set_option linter.unusedSimpArgs false
namespace Go.Proofs.Ytnpmojfjoemelaa.octetCuts
open Go.ChangeShapes Go.WideShapes Go.ChangeAt Go.RowKit
attribute [local go_sem] bs_size bs_toList2 bs_append bs_extract_end bs_extract_begin bs_get wrap64_b

theorem spoilt (x : Oct.Sc) (h : x.spoil = true) : x.long = (0, x) ∧ ∀ most : Int, 0 ≤ most → x.text most = ([], x) := by
  have h1 : x.long = (0, x) := by simp [Oct.Sc.long, h]
  refine ⟨h1, fun most hm => ?_⟩
  have h2 : x.num most = (0, x) := by
    rw [Oct.Sc.num, h1, if_neg (by simp; omega)]; rfl
  rw [Oct.Sc.text, h2]
  simp [h]

theorem cut_pos (x : Int) (L : Nat) (hL : 0 < L) (hx : 0 ≤ x) : 0 ≤ x.tmod L ∧ x.tmod L < L :=
  ⟨Int.tmod_nonneg _ hx, Int.tmod_lt_of_pos _ (by omega)⟩
theorem cut_pos' (x : Int) (L : Nat) (hL : 0 < L) : 0 ≤ x % L ∧ x % L < L := ⟨Int.emod_nonneg _ (by omega), Int.emod_lt_of_pos _ (by omega)⟩
theorem cut_neg (x : Int) (L : Nat) (hL : 0 < L) (hx : x ≤ 0) : x.tmod L ≤ 0 ∧ -(x.tmod L) < L := by
  have h := cut_pos (-x) L hL (by omega)
  rw [Int.neg_tmod] at h
  omega

set_option maxHeartbeats 2000000 in
theorem walk (B : Nat) (A : Option Addr) (cap : Nat) (l : List (List UInt8)) (at_ : Int) (h0 : -9223372036854775808 ≤ at_) (h1 : at_ ≤ 9223372036854775807) (w : World) (h : Rd w B A (l.map strV)) (hB : B ≤ w.heap.size) (hl : l.length ≤ 9223372036854775807) (he : ∀ s ∈ l, s.length ≤ 9223372036854775807) :
    Calls Try.prog 12 #[.slice A l.length cap, .int .i64 at_] w fun e w' => e = .returned (.bool true) ∧ Ext w w' := by
  have hfl := few01_list l
  have hf12 := few01_length l
  have hfe := few01_each l
  have hfp := Oct.put_length (few01 l).length
  have hlen0 : 1 ≤ (Oct.list (few01 l)).length := by simp only [Oct.list, List.length_append]; omega
  clear hfp
  go_enter Try.func12, Try.ntmps12
  go_wp2_with fail
  refine (awake_calls _).mono ?_; rintro e w1 ⟨rfl, e1⟩
  go_wp2_with fail
  refine (few01_calls B A cap l _ (h.below e1 hB) (Nat.le_trans hB e1.size) hl he).mono ?_; rintro e w2 ⟨⟨A', c', rfl, hr⟩, e2⟩
  generalize few01 l = m at *
  clear h he
  go_wp2_with fail
  refine (List_calls _ A' c' m _ hr.rd (Nat.le_refl _) (by omega)).mono ?_; rintro e w3 ⟨rfl, e3⟩
  have e13 := e1.trans (e2.trans e3)
  have hcut := Oct.list_cut m (by omega) (fun s hs => by have := hfe s hs; omega) 1048576 (by omega)
  have HC := Lib.hid hcut
  clear hcut hfe
  have hne : ((Oct.list m).length == 0) = false := by rw [beq_eq_false_iff_ne]; omega
  generalize Oct.list m = q at *
  rcases (show at_ < 0 ∨ 0 ≤ at_ from by omega) with hneg | hneg
  all_goals
    (first
      | (have hneg1 : at_ + 1 ≤ 0 := by omega
         obtain ⟨c1, c2⟩ := cut_neg (at_ + 1) q.length hlen0 hneg1)
      | (obtain ⟨c1, c2⟩ := cut_pos' at_ q.length hlen0))
    go_wp2_with fail
    refine (Read_calls _ _).mono ?_; rintro e w4 ⟨rfl, rfl⟩
    (first
      | (have c3 : (-(at_ + 1).tmod (q.length : Int)).toNat < q.length := by omega
         generalize (-(at_ + 1).tmod (q.length : Int)).toNat = jj at *)
      | (have c3 : (at_ % (q.length : Int)).toNat < q.length := by omega
         generalize (at_ % (q.length : Int)).toNat = jj at *))
    obtain ⟨x1, x2⟩ := HC.out _ c3
    have hpl : (q.take jj).length ≤ 1317 := by simp; omega
    generalize q.take jj = p at *
    have hS := Read_at p w3
    have X2 := Lib.hid x2
    clear x2
    go_wp2_with fail
    refine (ScList_calls w3.heap.size _ 1048576 _ hS (by simp; omega) (by omega) (by omega)).mono ?_
    rintro e w4 ⟨h4, ⟨A4, c4, rfl, hr4⟩, hu4⟩
    have hll := Oct.list_left_le ⟨p, false⟩ 1048576
    simp only at hll
    rw [X2.out] at hr4 ⊢
    have hE : Ext w w4 := (e13.alloc _).upd hu4 e13.size
    generalize (Oct.Sc.list ⟨p, false⟩ 1048576).2 = x at *
    obtain ⟨hx1, hx2⟩ := spoilt x x1
    have hx2' := hx2 9 (by omega)
    have hx3 : x.leftN = 0 := by simp [Oct.Sc.leftN, x1]
    clear hx2 X2 HC
    have X1 := Lib.hid x1
    have HX1 := Lib.hid hx1
    have HX2 := Lib.hid hx2'
    have HX3 := Lib.hid hx3
    clear x1 hx1 hx2' hx3 hr4 c1 c2
    go_wp2_with fail
    refine (Sound_calls w3.heap.size _ _ h4).mono ?_; rintro e w5 ⟨rfl, rfl⟩
    rw [X1.out]
    go_wp2_with fail
    refine (Left_calls w3.heap.size _ _ h4 (by omega)).mono ?_; rintro e w5 ⟨rfl, rfl⟩
    rw [HX3.out]
    go_wp2_with fail
    refine (Long_calls w3.heap.size _ _ h4 (by omega)).mono ?_; rintro e w5 ⟨rfl, h5, hu5⟩
    rw [HX1.out] at h5 ⊢
    go_wp2_with fail
    refine (ScText_calls w3.heap.size _ 9 _ h5 (by omega) (by omega) (by omega)).mono ?_; rintro e w6 ⟨rfl, h6, hu6⟩
    rw [HX2.out]
    go_wp2_with fail
    go_ret
    exact ⟨rfl, (hE.upd hu5 e13.size).upd hu6 e13.size⟩

set_option maxRecDepth 100000 in
theorem lifted (os : Os) (started : os.Started) (H : Type) (enc : TypeId × Value → H) :
    ReturnsInHanded {} Try.checked os 12 .any (Rows.octetCutsSpec.pre6 enc Try.prog Try.f12 Rows.octetCutsRow.domain false) (Rows.octetCutsSpec.post enc Try.prog Try.f12 false true false false) := by
  refine returnsInHanded_of_change (C := Try.checked) own_ started (by kernel_rfl) Try.func12
    (ChangeSpec.witness6 (enc := enc) (C := Try.checked) false ⟨#[], #[.slice none 0 0, .int .i64 0], []⟩ 8 (by kernel_rfl) (by kernel_rfl) (by kernel_rfl) (by kernel_rfl)) ?_
  intro W base args ds gs before hval0 hW hcnd _
  have hval : ∀ (j : Nat) t v, Try.f12.params[j]? = some t → args[j]? = some v → Value.okWide Try.prog W .any base t v := hval0
  have hW' := hW
  obtain ⟨p, q, hA0, hV, rfl, hfz, hnd⟩ := hW
  have hA : DataW.TrodAll enc Try.prog W 0 (fun _ => true) true Try.f12.params.toList args.toList ds p := hA0
  rw [Try.params12] at hA hval
  obtain ⟨v0, vs0, d0, ds0, p0, q0, hargs, rfl, rfl, hx0, r0⟩ := trodAll_cons hA
  obtain ⟨v1, vs1, d1, ds1, p1, q1, rfl, rfl, rfl, hx1, r1⟩ := trodAll_cons r0
  obtain ⟨rfl, rfl, rfl⟩ := trodAll_nil r1
  obtain rfl : args = #[v0, v1] := by cases args; simp_all
  obtain ⟨rfl, rfl⟩ := trodVars_none hV
  obtain ⟨Al, cl, l, rfl, hlr, hlc, hlm, hle⟩ := op_strs (hval 0 43 v0 rfl rfl) (tr_of hx0)
  obtain ⟨k, rfl, hk0, hk1⟩ := op_int (hval 1 3 v1 rfl rfl) (tr_of hx1)
  refine (walk W.heap.size Al cl l k hk0 hk1 W hlr (Nat.le_refl _) (by omega) hle).mono fun e W' ⟨he, hg⟩ => ?_
  subst he
  exact ⟨_, rfl, law_post hW' rfl rfl (by kernel_rfl) rfl rfl rfl hg⟩

theorem over : Rows.octetCutsRow.holds Try.pinned (OpenSpec.ofChange Rows.octetCutsSpec) :=
  OpenClaim.holds_of_wide 12 Try.f12 rfl rfl rfl rfl rfl rfl rfl ⟨rfl, rfl, rfl, rfl, rfl⟩ rfl rfl rfl rfl rfl (by kernel_rfl) Try.func12 (by kernel_rfl)
    (of_decide_eq_true (by kernel_rfl)) (by unfold Func.isWrapper; first | (rw [if_pos (by decide +kernel)]; kernel_rfl) | (rw [if_neg (by decide +kernel)]; exact ⟨rfl, rfl⟩))
    (fun os started H enc _ => lifted os started H enc)

theorem proved : Rows.OctetCutsSaid := over

end Go.Proofs.Ytnpmojfjoemelaa.octetCuts
