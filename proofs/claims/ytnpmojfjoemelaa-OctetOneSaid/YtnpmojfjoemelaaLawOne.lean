/-
  scriniumlaw01.OctetOne: no two numbers, texts or lists have the same bytes, nor bytes that begin another one's. No condition.
-/
import Derived.Test.YtnpmojfjoemelaaOpen
import Derived.Test.YtnpmojfjoemelaaL01
import Derived.Test.YtnpmojfjoemelaaOctA
set_option linter.unusedVariables false
set_option linter.unusedSimpArgs false
namespace Go.Proofs.Ytnpmojfjoemelaa.octetOne
open Go.ChangeShapes Go.WideShapes Go.ChangeAt Go.RowKit
attribute [local go_sem] bs_size bs_toList2 bs_append bs_extract_end bs_extract_begin bs_get wrap64_b

theorem begins_num (a b : Nat) (ha : a ≤ 18446744073709551615) (hb : b ≤ 18446744073709551615) : ((Oct.put b).take (Oct.put a).length = Oct.put a) ↔ a = b := by
  constructor
  · intro h
    refine Oct.put_one a b (Nat.lt_succ_of_le ha) (Nat.lt_succ_of_le hb) ((Oct.put b).drop (Oct.put a).length) ?_
    conv => lhs; rw [← List.take_append_drop (Oct.put a).length (Oct.put b), h]
  · rintro rfl
    exact List.take_length
theorem begins_list (l m : List (List UInt8)) (hl : l.length ≤ 12) (hm : m.length ≤ 12) (hl' : ∀ s ∈ l, s.length ≤ 100) (hm' : ∀ s ∈ m, s.length ≤ 100) : ((Oct.list m).take (Oct.list l).length = Oct.list l) ↔ l = m := by
  constructor
  · intro h
    refine (Oct.list_one l m (by omega) (by omega) (fun s hs => by have := hl' s hs; omega) (fun s hs => by have := hm' s hs; omega) ((Oct.list m).drop (Oct.list l).length) ?_).1
    conv => lhs; rw [← List.take_append_drop (Oct.list l).length (Oct.list m), h]
  · rintro rfl
    exact List.take_length
theorem begins_le {x y : List UInt8} (h : ¬ x.length ≤ y.length) : ¬ y.take x.length = x := by
  intro e
  have := congrArg List.length e
  simp at this
  omega

/-- What Go reckons: is x no longer than y, and does y begin with x? -/
def begins (x y : List UInt8) : Bool := decide (x.length ≤ y.length) && y.take x.length == x
theorem begins_iff (x y : List UInt8) : begins x y = decide (y.take x.length = x) := by
  unfold begins
  by_cases h : x.length ≤ y.length
  · rw [decide_eq_true h, Bool.true_and, Bool.eq_iff_iff]; simp
  · rw [decide_eq_false h, Bool.false_and, decide_eq_false (begins_le h)]

theorem told {x y : List UInt8} {p : Bool} (h : begins x y = p) : (x.length ≤ y.length ∧ (y.take x.length == x) = p) ∨ (y.length < x.length ∧ p = false) := by
  unfold begins at h
  by_cases hl : x.length ≤ y.length
  · exact .inl ⟨hl, by simpa [hl] using h⟩
  · exact .inr ⟨by omega, by simpa [hl] using h.symm⟩

set_option maxHeartbeats 2000000 in
theorem walk (a b : Nat) (B : Nat) (A1 A2 : Option Addr) (c1 c2 : Nat) (l1 l2 : List (List UInt8)) (ha : a ≤ 18446744073709551615) (hb : b ≤ 18446744073709551615) (w : World) (hB : B ≤ w.heap.size)
    (h1 : Rd w B A1 (l1.map strV) ∧ l1.length ≤ 9223372036854775807 ∧ ∀ s ∈ l1, s.length ≤ 9223372036854775807) (h2 : Rd w B A2 (l2.map strV) ∧ l2.length ≤ 9223372036854775807 ∧ ∀ s ∈ l2, s.length ≤ 9223372036854775807) :
    Calls Try.prog 7 #[.int .u64 a, .int .u64 b, .agg #[.slice A1 l1.length c1, .slice A2 l2.length c2]] w fun e w' => e = .returned (.bool true) ∧ Ext w w' := by
  obtain ⟨r1, n1, d1⟩ := h1
  obtain ⟨r2, n2, d2⟩ := h2
  have f1 := few01_length l1
  have f2 := few01_length l2
  have g1 := few01_list l1
  have g2 := few01_list l2
  have hbn := begins_num a b ha hb
  have hbl := begins_list (few01 l1) (few01 l2) f1 f2 (few01_each l1) (few01_each l2)
  have HBN := Lib.hid hbn
  have HBL := Lib.hid hbl
  have p1 : (Oct.put a).length ≤ 9 := by have := Oct.put_length a; have := Oct.need_le a; omega
  have p2 : (Oct.put b).length ≤ 9 := by have := Oct.put_length b; have := Oct.need_le b; omega
  clear hbn hbl
  go_enter Try.func7, Try.ntmps7
  go_wp2_with fail
  refine (awake_calls _).mono ?_; rintro e w1 ⟨rfl, e1⟩
  have hX : Blk w1 w.heap.size 44 #[.slice A1 l1.length c1, .slice A2 l2.length c2] := Blk.below (Blk.new _ _ _) e1 (by simp)
  go_wp2_with fail
  (with_reducible refine (Put_calls _ _ (by omega) (by omega)).mono ?_); rintro e w2 ⟨rfl, e2⟩
  rw [Int.toNat_natCast]
  go_wp2_with fail
  (with_reducible refine (Put_calls _ _ (by omega) (by omega)).mono ?_); rintro e w3 ⟨rfl, e3⟩
  rw [Int.toNat_natCast]
  have hX3 := Blk.below hX (e2.trans e3) hX.lt
  have x0 : w3.cell? ⟨w.heap.size, 0, none⟩ = some (.slice A1 l1.length c1) := Blk.cell hX3 0
  have e03 : Ext w w3 := ((Ext.refl w).alloc _).trans (e1.trans (e2.trans e3))
  go_wp2_with fail
  (with_reducible refine (few01_calls B A1 c1 l1 _ (r1.below e03 hB) (Nat.le_trans hB e03.size) n1 d1).mono ?_); rintro e w4 ⟨⟨A4, c4, rfl, hr4⟩, e4⟩
  have x1 : w4.cell? ⟨w.heap.size, 1, none⟩ = some (.slice A2 l2.length c2) := Blk.cell (Blk.below hX3 e4 hX3.lt) 1
  go_wp2_with fail
  (with_reducible refine (few01_calls B A2 c2 l2 _ (r2.below (e03.trans e4) hB) (Nat.le_trans hB (e03.trans e4).size) n2 d2).mono ?_); rintro e w5 ⟨⟨A5, c5, rfl, hr5⟩, e5⟩
  generalize few01 l1 = m at *
  generalize few01 l2 = n at *
  clear x0 x1 r1 r2 d1 d2 hX hX3
  go_wp2_with fail
  (with_reducible refine (List_calls _ A4 c4 m _ (hr4.ext e5).rd (Nat.le_refl _) (by omega)).mono ?_); rintro e w6 ⟨rfl, e6⟩
  go_wp2_with fail
  (with_reducible refine (List_calls _ A5 c5 n _ (hr5.ext e6).rd (Nat.le_refl _) (by omega)).mono ?_); rintro e w7 ⟨rfl, e7⟩
  go_wp2_with fail
  (with_reducible refine (Same01_calls _ A4 A5 c4 c5 m n _ (((hr4.ext e5).ext e6).ext e7).rd ((hr5.ext e6).ext e7).rd (Nat.le_refl _) (by omega) (by omega)).mono ?_); rintro e w8 ⟨rfl, e8⟩
  have eN := begins_iff (Oct.put a) (Oct.put b)
  have eL := begins_iff (Oct.list m) (Oct.list n)
  have q1 : begins (Oct.put a) (Oct.put b) = decide (a = b) := by rw [eN, decide_eq_decide]; exact HBN.out
  have q2 : begins (Oct.list m) (Oct.list n) = decide (m = n) := by rw [eL, decide_eq_decide]; exact HBL.out
  have Q1 := Lib.hid q1
  have Q2 := Lib.hid q2
  clear q1 q2 eN eL
  generalize Oct.put a = x at *
  generalize Oct.put b = y at *
  generalize Oct.list m = s at *
  generalize Oct.list n = t at *
  have hab : decide (a = b) = ((a : Int) == (b : Int)) := by rw [Bool.eq_iff_iff]; simp; omega
  have q1 := Q1.out
  rw [hab] at q1
  clear hab HBN HBL Q1
  have q2 := told Q2.out
  replace q1 := told q1
  clear Q2
  have eE : Ext w w8 := e03.trans (e4.trans (e5.trans (e6.trans (e7.trans e8))))
  rcases q1 with ⟨k1, k1'⟩ | ⟨k1, k1'⟩ <;> rcases q2 with ⟨k2, k2'⟩ | ⟨k2, k2'⟩
  all_goals
    go_wp2_with fail
    go_ret
    exact ⟨rfl, eE⟩

set_option maxRecDepth 100000 in
theorem lifted (os : Os) (started : os.Started) (H : Type) (enc : TypeId × Value → H) :
    ReturnsInHanded {} Try.checked os 7 .any (Rows.octetOneSpec.pre6 enc Try.prog Try.f7 Rows.octetOneRow.domain false) (Rows.octetOneSpec.post enc Try.prog Try.f7 false true false false) := by
  refine returnsInHanded_of_change (C := Try.checked) own_ started (by kernel_rfl) Try.func7
    (ChangeSpec.witness6 (enc := enc) (C := Try.checked) false ⟨#[], #[.int .u64 0, .int .u64 0, .agg #[.slice none 0 0, .slice none 0 0]], []⟩ 8 (by kernel_rfl) (by kernel_rfl) (by kernel_rfl) (by kernel_rfl)) ?_
  intro W base args ds gs before hval0 hW hcnd _
  have hval : ∀ (j : Nat) t v, Try.f7.params[j]? = some t → args[j]? = some v → Value.okWide Try.prog W .any base t v := hval0
  have hW' := hW
  obtain ⟨p, q, hA0, hV, rfl, hfz, hnd⟩ := hW
  have hA : DataW.TrodAll enc Try.prog W 0 (fun _ => true) true Try.f7.params.toList args.toList ds p := hA0
  rw [Try.params7] at hA hval
  obtain ⟨v0, vs0, d0, ds0, p0, q0, hargs, rfl, rfl, hx0, r0⟩ := trodAll_cons hA
  obtain ⟨v1, vs1, d1, ds1, p1, q1, rfl, rfl, rfl, hx1, r1⟩ := trodAll_cons r0
  obtain ⟨v2, vs2, d2, ds2, p2, q2, rfl, rfl, rfl, hx2, r2⟩ := trodAll_cons r1
  obtain ⟨rfl, rfl, rfl⟩ := trodAll_nil r2
  obtain rfl : args = #[v0, v1, v2] := by cases args; simp_all
  obtain ⟨rfl, rfl⟩ := trodVars_none hV
  obtain ⟨a, rfl, ha⟩ := op_u64 (hval 0 22 v0 rfl rfl) (tr_of hx0)
  obtain ⟨b, rfl, hb⟩ := op_u64 (hval 1 22 v1 rfl rfl) (tr_of hx1)
  obtain ⟨Al1, Al2, cl1, cl2, l1, l2, rfl, ⟨rl1, nl1, el1⟩, ⟨rl2, nl2, el2⟩⟩ := op_strs2 (hval 2 44 v2 rfl rfl) (tr_of hx2)
  refine (walk a b W.heap.size Al1 Al2 cl1 cl2 l1 l2 ha hb W (Nat.le_refl _) ⟨rl1, nl1, el1⟩ ⟨rl2, nl2, el2⟩).mono fun e W' ⟨he, hg⟩ => ?_
  subst he
  exact ⟨_, rfl, law_post hW' rfl rfl (by kernel_rfl) rfl rfl rfl hg⟩

theorem over : Rows.octetOneRow.holds Try.pinned (OpenSpec.ofChange Rows.octetOneSpec) :=
  OpenClaim.holds_of_wide 7 Try.f7 rfl rfl rfl rfl rfl rfl rfl ⟨rfl, rfl, rfl, rfl, rfl⟩ rfl rfl rfl rfl rfl (by kernel_rfl) Try.func7 (by kernel_rfl)
    (of_decide_eq_true (by kernel_rfl)) (by unfold Func.isWrapper; first | (rw [if_pos (by decide +kernel)]; kernel_rfl) | (rw [if_neg (by decide +kernel)]; exact ⟨rfl, rfl⟩))
    (fun os started H enc _ => lifted os started H enc)

theorem proved : Rows.OctetOneSaid := over

end Go.Proofs.Ytnpmojfjoemelaa.octetOne
