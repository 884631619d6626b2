/-
  scriniumlaw01.OctetPuts: numbers, texts and lists are put as the document says. No condition.
-/
import Derived.Test.YtnpmojfjoemelaaOpen
import Derived.Test.YtnpmojfjoemelaaL01
import Derived.Test.YtnpmojfjoemelaaOctA
set_option linter.unusedVariables false
set_option linter.unusedSimpArgs false
namespace Go.Proofs.Ytnpmojfjoemelaa.octetPuts
open Go.ChangeShapes Go.WideShapes Go.ChangeAt Go.RowKit
attribute [local go_sem] bs_size bs_toList2 bs_append bs_extract_end bs_extract_begin bs_get wrap64_b

set_option maxHeartbeats 1000000 in
theorem walk (n : Nat) (s : List UInt8) (B : Nat) (A : Option Addr) (cap : Nat) (l : List (List UInt8)) (hn : n ≤ 18446744073709551615) (hs : s.length ≤ 9223372036854775807) (w : World) (h : Rd w B A (l.map strV)) (hB : B ≤ w.heap.size) (hl : l.length ≤ 9223372036854775807) (he : ∀ s ∈ l, s.length ≤ 9223372036854775807) :
    Calls Try.prog 8 #[.int .u64 n, .string (bs s), .slice A l.length cap] w fun e w' => e = .returned (.bool true) ∧ Ext w w' := by
  have hfl := few01_list l
  have hpl := Oct.put_length n
  have hnl := Oct.need_le n
  have hsl : (s.take 1000).length ≤ 1000 := by simp; omega
  have HPL := Lib.hid hpl
  have hpl' : (Oct.put n).length ≤ 9 := by omega
  clear hpl hnl
  go_enter Try.func8, Try.ntmps8
  go_wp2_with fail
  refine (awake_calls _).mono ?_; rintro e w1 ⟨rfl, e1⟩
  go_wp2_with fail
  refine (short01_calls s 1000 _ hs (by omega)).mono ?_; rintro e w1 ⟨rfl, rfl⟩
  go_wp2_with fail
  refine (few01_calls B A cap l _ (h.below e1 hB) (Nat.le_trans hB e1.size) hl he).mono ?_; rintro e w2 ⟨⟨A', c', rfl, hr⟩, e2⟩
  generalize few01 l = m at *
  generalize s.take 1000 = t at *
  go_wp2_with fail
  refine (Put_calls _ _ (by omega) (by omega)).mono ?_; rintro e w3 ⟨rfl, e3⟩
  rw [Int.toNat_natCast]
  go_wp2_with fail
  refine (refPut_calls _ _ (by omega) (by omega)).mono ?_; rintro e w4 ⟨rfl, e4⟩
  rw [Int.toNat_natCast]
  go_wp2_with fail
  refine (Size_calls _ _ (by omega) (by omega)).mono ?_; rintro e w5 ⟨rfl, rfl⟩
  rw [Int.toNat_natCast]
  go_wp2_with fail
  refine (refPut_calls _ _ (by omega) (by omega)).mono ?_; rintro e w5 ⟨rfl, e5⟩
  rw [Int.toNat_natCast]
  have hq : ((1 + (Oct.need n : Int)) == ((Oct.put n).length : Int)) = true := by rw [HPL.out]; simp
  go_wp2_with fail
  refine (Text_calls t _ (by omega)).mono ?_; rintro e w6 ⟨rfl, e6⟩
  go_wp2_with fail
  refine (refText_calls t _ (by omega)).mono ?_; rintro e w7 ⟨rfl, e7⟩
  go_wp2_with fail
  have e27 : Ext w2 w7 := e3.trans (e4.trans (e5.trans (e6.trans e7)))
  refine (List_calls _ A' c' m _ (hr.ext e27).rd (Nat.le_refl _) (by omega)).mono ?_; rintro e w8 ⟨rfl, e8⟩
  go_wp2_with fail
  refine (refList_calls _ A' c' m _ ((hr.ext e27).ext e8).rd (Nat.le_refl _) (by omega)).mono ?_; rintro e w9 ⟨rfl, e9⟩
  go_wp2_with fail
  go_ret
  exact ⟨rfl, e1.trans (e2.trans (e27.trans (e8.trans e9)))⟩

set_option maxRecDepth 100000 in
theorem lifted (os : Os) (started : os.Started) (H : Type) (enc : TypeId × Value → H) :
    ReturnsInHanded {} Try.checked os 8 .any (Rows.octetPutsSpec.pre6 enc Try.prog Try.f8 Rows.octetPutsRow.domain false) (Rows.octetPutsSpec.post enc Try.prog Try.f8 false true false false) := by
  refine returnsInHanded_of_change (C := Try.checked) own_ started (by kernel_rfl) Try.func8
    (ChangeSpec.witness6 (enc := enc) (C := Try.checked) false ⟨#[], #[.int .u64 0, .string .empty, .slice none 0 0], []⟩ 8 (by kernel_rfl) (by kernel_rfl) (by kernel_rfl) (by kernel_rfl)) ?_
  intro W base args ds gs before hval0 hW hcnd _
  have hval : ∀ (j : Nat) t v, Try.f8.params[j]? = some t → args[j]? = some v → Value.okWide Try.prog W .any base t v := hval0
  have hW' := hW
  obtain ⟨p, q, hA0, hV, rfl, hfz, hnd⟩ := hW
  have hA : DataW.TrodAll enc Try.prog W 0 (fun _ => true) true Try.f8.params.toList args.toList ds p := hA0
  rw [Try.params8] at hA hval
  obtain ⟨v0, vs0, d0, ds0, p0, q0, hargs, rfl, rfl, hx0, r0⟩ := trodAll_cons hA
  obtain ⟨v1, vs1, d1, ds1, p1, q1, rfl, rfl, rfl, hx1, r1⟩ := trodAll_cons r0
  obtain ⟨v2, vs2, d2, ds2, p2, q2, rfl, rfl, rfl, hx2, r2⟩ := trodAll_cons r1
  obtain ⟨rfl, rfl, rfl⟩ := trodAll_nil r2
  obtain rfl : args = #[v0, v1, v2] := by cases args; simp_all
  obtain ⟨rfl, rfl⟩ := trodVars_none hV
  obtain ⟨n, rfl, hn⟩ := op_u64 (hval 0 22 v0 rfl rfl) (tr_of hx0)
  obtain ⟨s, rfl, hs⟩ := op_str (hval 1 9 v1 rfl rfl) (tr_of hx1)
  obtain ⟨Al, cl, l, rfl, hlr, hlc, hlm, hle⟩ := op_strs (hval 2 43 v2 rfl rfl) (tr_of hx2)
  refine (walk n s W.heap.size Al cl l hn hs W hlr (Nat.le_refl _) (by omega) hle).mono fun e W' ⟨he, hg⟩ => ?_
  subst he
  exact ⟨_, rfl, law_post hW' rfl rfl (by kernel_rfl) rfl rfl rfl hg⟩

theorem over : Rows.octetPutsRow.holds Try.pinned (OpenSpec.ofChange Rows.octetPutsSpec) :=
  OpenClaim.holds_of_wide 8 Try.f8 rfl rfl rfl rfl rfl rfl rfl ⟨rfl, rfl, rfl, rfl, rfl⟩ rfl rfl rfl rfl rfl (by kernel_rfl) Try.func8 (by kernel_rfl)
    (of_decide_eq_true (by kernel_rfl)) (by unfold Func.isWrapper; first | (rw [if_pos (by decide +kernel)]; kernel_rfl) | (rw [if_neg (by decide +kernel)]; exact ⟨rfl, rfl⟩))
    (fun os started H enc _ => lifted os started H enc)

theorem proved : Rows.OctetPutsSaid := over

end Go.Proofs.Ytnpmojfjoemelaa.octetPuts
