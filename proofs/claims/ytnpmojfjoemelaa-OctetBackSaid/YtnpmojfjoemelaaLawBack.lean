/-
  scriniumlaw01.OctetBack: what was put is read as it was, and what stands behind it is left. No condition.
-/
import Derived.Test.YtnpmojfjoemelaaOpen
import Derived.Test.YtnpmojfjoemelaaL01
import Derived.Test.YtnpmojfjoemelaaOctA
set_option linter.unusedVariables false
set_option linter.unusedSimpArgs false
namespace Go.Proofs.Ytnpmojfjoemelaa.octetBack
open Go.ChangeShapes Go.WideShapes Go.ChangeAt Go.RowKit
attribute [local go_sem] bs_size bs_toList2 bs_append bs_extract_end bs_extract_begin bs_get wrap64_b

set_option maxHeartbeats 2000000 in
theorem walk (n : Nat) (B : Nat) (A : Option Addr) (cap : Nat) (l : List (List UInt8)) (rest : List UInt8) (hn : n ≤ 18446744073709551615) (hs : rest.length ≤ 9223372036854775807) (w : World) (h : Rd w B A (l.map strV)) (hB : B ≤ w.heap.size) (hl : l.length ≤ 9223372036854775807) (he : ∀ s ∈ l, s.length ≤ 9223372036854775807) :
    Calls Try.prog 11 #[.int .u64 n, .slice A l.length cap, .string (bs rest)] w fun e w' => e = .returned (.bool true) ∧ Ext w w' := by
  have hfl := few01_list l
  have hf12 := few01_length l
  have hfe := few01_each l
  have hsl : (rest.take 100).length ≤ 100 := by simp; omega
  have hpl : (Oct.put n).length ≤ 9 := by have := Oct.put_length n; have := Oct.need_le n; omega
  go_enter Try.func11, Try.ntmps11
  go_wp2_with fail
  refine (awake_calls _).mono ?_; rintro e w1 ⟨rfl, e1⟩
  go_wp2_with fail
  refine (few01_calls B A cap l _ (h.below e1 hB) (Nat.le_trans hB e1.size) hl he).mono ?_; rintro e w2 ⟨⟨A', c', rfl, hr⟩, e2⟩
  go_wp2_with fail
  refine (short01_calls rest 100 _ hs (by omega)).mono ?_; rintro e w3 ⟨rfl, rfl⟩
  generalize few01 l = m at *
  generalize rest.take 100 = t at *
  clear h he
  have hlp := Oct.long_put n (Nat.lt_succ_of_le hn)
  have hlist := Oct.list_put m (by omega) (fun s hs => by have := hfe s hs; omega) t 12 (by omega)
  have HLP := Lib.hid hlp
  have HLI := Lib.hid hlist
  clear hlp hlist
  obtain ⟨s, hs100, hcase⟩ : ∃ s : List UInt8, s.length ≤ 100 ∧ ((m = [] ∧ s = []) ∨ ∃ r, m = s :: r) := by
    rcases m with _ | ⟨a, r⟩
    · exact ⟨[], by simp, .inl ⟨rfl, rfl⟩⟩
    · exact ⟨a, hfe a (by simp), .inr ⟨r, rfl⟩⟩
  have htext := Oct.text_put s (by omega) (Oct.list m ++ t) 100 (by omega)
  have HTX := Lib.hid htext
  have htl : (Oct.text s).length ≤ 109 := by have := Oct.put_length s.length; have := Oct.need_le s.length; simp only [Oct.text, List.length_append]; omega
  clear htext hfe
  rcases hcase with ⟨rfl, rfl⟩ | ⟨r, rfl⟩
  · go_wp2_with fail
    (with_reducible refine (Put_calls _ _ (by omega) (by omega)).mono ?_); rintro e w3 ⟨rfl, e3⟩
    rw [Int.toNat_natCast]
    go_wp2_with fail
    refine (Text_calls [] _ (by first | omega | simp)).mono ?_; rintro e w4 ⟨rfl, e4⟩
    go_wp2_with fail
    refine (List_calls _ A' c' [] _ ((hr.ext e3).ext e4).rd (Nat.le_refl _) (by omega)).mono ?_; rintro e w5 ⟨rfl, e5⟩
    go_wp2_with fail
    (with_reducible refine (Read_calls _ _).mono ?_); rintro e w6 ⟨rfl, rfl⟩
    have hS := Read_at (Oct.put n ++ (Oct.text [] ++ (Oct.list [] ++ t))) w5
    have e05 : Ext w w5 := e1.trans (e2.trans (e3.trans (e4.trans e5)))
    go_wp2_with fail
    (with_reducible refine (Long_calls w5.heap.size _ _ hS (by simp; omega)).mono ?_); rintro e w6 ⟨rfl, h6, hu6⟩
    rw [HLP.out] at h6 ⊢
    go_wp2_with fail
    (with_reducible refine (ScText_calls w5.heap.size _ 100 _ h6 (by simp; omega) (by omega) (by omega)).mono ?_); rintro e w7 ⟨rfl, h7, hu7⟩
    rw [HTX.out] at h7 ⊢
    go_wp2_with fail
    (with_reducible refine (ScList_calls w5.heap.size _ 12 _ h7 (by simp; omega) (by omega) (by omega)).mono ?_); rintro e w8 ⟨h8, ⟨A8, c8, rfl, hr8⟩, hu8⟩
    rw [HLI.out] at h8 hr8 ⊢
    have hE : Ext w w8 := (((e05.alloc _).upd hu6 e05.size).upd hu7 e05.size).upd hu8 e05.size
    have hE28 : Ext w2 w8 := ((((e3.trans (e4.trans e5)).alloc _).upd hu6 (e3.trans (e4.trans e5)).size).upd hu7 (e3.trans (e4.trans e5)).size).upd hu8 (e3.trans (e4.trans e5)).size
    have hrm := (hr.ext hE28).rd
    go_wp2_with fail
    refine (Same01_calls w8.heap.size A8 A' c8 c' [] [] _ hr8.rd hrm (Nat.le_refl _) (by first | omega | simp) (by first | omega | simp)).mono ?_; rintro e w9 ⟨rfl, e9⟩
    rw [decide_eq_true rfl]
    have h9 := h8.ext e9
    go_wp2_with fail
    (with_reducible refine (Sound_calls w5.heap.size _ _ h9).mono ?_); rintro e w10 ⟨rfl, rfl⟩
    go_wp2_with fail
    (with_reducible refine (Left_calls w5.heap.size _ _ h9 (by simp only; omega)).mono ?_); rintro e w10 ⟨rfl, rfl⟩
    go_wp2_with fail
    (with_reducible refine (End_calls w5.heap.size _ _ h9).mono ?_); rintro e w10 ⟨rfl, rfl⟩
    have hend : ((Oct.Sc.endE ⟨t, false⟩ == 0) == t.isEmpty) = true := by rcases t with _ | ⟨z, t⟩ <;> rfl
    go_wp2_with fail
    go_ret
    exact ⟨rfl, hE.trans e9⟩
  · obtain ⟨b, off, hA, _, _, hc⟩ := hr (by simp)
    subst hA
    have hc0 : w2.cell? ⟨b, off, none⟩ = some (.string (bs s)) := hc 0 _ rfl
    have hpos : 0 < (s :: r).length := by simp
    clear hc
    go_wp2_with fail
    (with_reducible refine (Put_calls _ _ (by omega) (by omega)).mono ?_); rintro e w3 ⟨rfl, e3⟩
    rw [Int.toNat_natCast]
    go_wp2_with fail
    refine (Text_calls s _ (by first | omega | simp)).mono ?_; rintro e w4 ⟨rfl, e4⟩
    go_wp2_with fail
    refine (List_calls _ (some ⟨b, off, none⟩) c' (s :: r) _ ((hr.ext e3).ext e4).rd (Nat.le_refl _) (by omega)).mono ?_; rintro e w5 ⟨rfl, e5⟩
    go_wp2_with fail
    (with_reducible refine (Read_calls _ _).mono ?_); rintro e w6 ⟨rfl, rfl⟩
    have hS := Read_at (Oct.put n ++ (Oct.text s ++ (Oct.list (s :: r) ++ t))) w5
    have e05 : Ext w w5 := e1.trans (e2.trans (e3.trans (e4.trans e5)))
    go_wp2_with fail
    (with_reducible refine (Long_calls w5.heap.size _ _ hS (by simp; omega)).mono ?_); rintro e w6 ⟨rfl, h6, hu6⟩
    rw [HLP.out] at h6 ⊢
    go_wp2_with fail
    (with_reducible refine (ScText_calls w5.heap.size _ 100 _ h6 (by simp; omega) (by omega) (by omega)).mono ?_); rintro e w7 ⟨rfl, h7, hu7⟩
    rw [HTX.out] at h7 ⊢
    go_wp2_with fail
    (with_reducible refine (ScList_calls w5.heap.size _ 12 _ h7 (by simp; omega) (by omega) (by omega)).mono ?_); rintro e w8 ⟨h8, ⟨A8, c8, rfl, hr8⟩, hu8⟩
    rw [HLI.out] at h8 hr8 ⊢
    have hE : Ext w w8 := (((e05.alloc _).upd hu6 e05.size).upd hu7 e05.size).upd hu8 e05.size
    have hE28 : Ext w2 w8 := ((((e3.trans (e4.trans e5)).alloc _).upd hu6 (e3.trans (e4.trans e5)).size).upd hu7 (e3.trans (e4.trans e5)).size).upd hu8 (e3.trans (e4.trans e5)).size
    have hrm := (hr.ext hE28).rd
    go_wp2_with fail
    refine (Same01_calls w8.heap.size A8 (some ⟨b, off, none⟩) c8 c' (s :: r) (s :: r) _ hr8.rd hrm (Nat.le_refl _) (by first | omega | simp) (by first | omega | simp)).mono ?_; rintro e w9 ⟨rfl, e9⟩
    rw [decide_eq_true rfl]
    have h9 := h8.ext e9
    go_wp2_with fail
    (with_reducible refine (Sound_calls w5.heap.size _ _ h9).mono ?_); rintro e w10 ⟨rfl, rfl⟩
    go_wp2_with fail
    (with_reducible refine (Left_calls w5.heap.size _ _ h9 (by simp only; omega)).mono ?_); rintro e w10 ⟨rfl, rfl⟩
    go_wp2_with fail
    (with_reducible refine (End_calls w5.heap.size _ _ h9).mono ?_); rintro e w10 ⟨rfl, rfl⟩
    have hend : ((Oct.Sc.endE ⟨t, false⟩ == 0) == t.isEmpty) = true := by rcases t with _ | ⟨z, t⟩ <;> rfl
    go_wp2_with fail
    go_ret
    exact ⟨rfl, hE.trans e9⟩

set_option maxRecDepth 100000 in
theorem lifted (os : Os) (started : os.Started) (H : Type) (enc : TypeId × Value → H) :
    ReturnsInHanded {} Try.checked os 11 .any (Rows.octetBackSpec.pre6 enc Try.prog Try.f11 Rows.octetBackRow.domain false) (Rows.octetBackSpec.post enc Try.prog Try.f11 false true false false) := by
  refine returnsInHanded_of_change (C := Try.checked) own_ started (by kernel_rfl) Try.func11
    (ChangeSpec.witness6 (enc := enc) (C := Try.checked) false ⟨#[], #[.int .u64 0, .slice none 0 0, .string .empty], []⟩ 8 (by kernel_rfl) (by kernel_rfl) (by kernel_rfl) (by kernel_rfl)) ?_
  intro W base args ds gs before hval0 hW hcnd _
  have hval : ∀ (j : Nat) t v, Try.f11.params[j]? = some t → args[j]? = some v → Value.okWide Try.prog W .any base t v := hval0
  have hW' := hW
  obtain ⟨p, q, hA0, hV, rfl, hfz, hnd⟩ := hW
  have hA : DataW.TrodAll enc Try.prog W 0 (fun _ => true) true Try.f11.params.toList args.toList ds p := hA0
  rw [Try.params11] at hA hval
  obtain ⟨v0, vs0, d0, ds0, p0, q0, hargs, rfl, rfl, hx0, r0⟩ := trodAll_cons hA
  obtain ⟨v1, vs1, d1, ds1, p1, q1, rfl, rfl, rfl, hx1, r1⟩ := trodAll_cons r0
  obtain ⟨v2, vs2, d2, ds2, p2, q2, rfl, rfl, rfl, hx2, r2⟩ := trodAll_cons r1
  obtain ⟨rfl, rfl, rfl⟩ := trodAll_nil r2
  obtain rfl : args = #[v0, v1, v2] := by cases args; simp_all
  obtain ⟨rfl, rfl⟩ := trodVars_none hV
  obtain ⟨n, rfl, hn⟩ := op_u64 (hval 0 22 v0 rfl rfl) (tr_of hx0)
  obtain ⟨Al, cl, l, rfl, hlr, hlc, hlm, hle⟩ := op_strs (hval 1 43 v1 rfl rfl) (tr_of hx1)
  obtain ⟨r, rfl, hr⟩ := op_str (hval 2 9 v2 rfl rfl) (tr_of hx2)
  refine (walk n W.heap.size Al cl l r hn hr W hlr (Nat.le_refl _) (by omega) hle).mono fun e W' ⟨he, hg⟩ => ?_
  subst he
  exact ⟨_, rfl, law_post hW' rfl rfl (by kernel_rfl) rfl rfl rfl hg⟩

theorem over : Rows.octetBackRow.holds Try.pinned (OpenSpec.ofChange Rows.octetBackSpec) :=
  OpenClaim.holds_of_wide 11 Try.f11 rfl rfl rfl rfl rfl rfl rfl ⟨rfl, rfl, rfl, rfl, rfl⟩ rfl rfl rfl rfl rfl (by kernel_rfl) Try.func11 (by kernel_rfl)
    (of_decide_eq_true (by kernel_rfl)) (by unfold Func.isWrapper; first | (rw [if_pos (by decide +kernel)]; kernel_rfl) | (rw [if_neg (by decide +kernel)]; exact ⟨rfl, rfl⟩))
    (fun os started H enc _ => lifted os started H enc)

theorem proved : Rows.OctetBackSaid := over

end Go.Proofs.Ytnpmojfjoemelaa.octetBack
