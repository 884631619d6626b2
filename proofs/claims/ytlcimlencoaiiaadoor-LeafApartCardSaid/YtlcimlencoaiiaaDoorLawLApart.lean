/-
  scriniumlaw09.LeafApart: a leaf's hash is that of other bytes than any node's. No condition.
-/
import Derived.Test.YtlcimlencoaiiaaDoorLeafA
import Derived.Test.YtlcimlencoaiiaaDoorOpL
import Derived.Test.YtlcimlencoaiiaaDoorEqA
import Derived.Test.YtlcimlencoaiiaaDoorLaw
import Derived.Deep.DeepCutAuto
set_option linter.unusedVariables false
set_option maxRecDepth 100000
set_option linter.unusedSimpArgs false
namespace Go.Proofs.YtlcimlencoaiiaaDoor.leafApart
open Go.ChangeShapes Go.WideShapes Go.ChangeAt Go.RowKit
attribute [local go_sem] bs_size bs_toList2 bs_append bs_extract_end bs_extract_begin bs_get wrap64_b grow_cell grow_frozen

theorem pre_inj {a b c f : List UInt8} (ha : a.length = 32) (hc : c.length = 32) (e : preB a b = preB c f) : a = c ∧ b = f := by
  unfold preB at e
  injection e with _ e
  exact List.append_inj e (by omega)
theorem blk_mid {w : World} {g : Nat} {t : TypeId} {l : List (List UInt8)} (h : Blk w g t (flatS l).toArray) (hl : AllH l) (k : Nat) (hk : k < l.length) : w.rangeAt g (k * 32) (hcells l[k]) := fun j v hv => by
  rw [Blk.cell h]
  have := flatS_get l hl k hk j v hv
  simpa using this
theorem load_mid_g {P : Program} {ops : Array Oper} {rest : List Oper} {op : Oper} {a : Act} {w : World} {Q : Exit → Act → World → Prop} (hgd : Region.wanted op (yielded ops a.tmps) = true) (ty : TypeId) (x : Operand) (ho : op.op = .load ty x)
    (b o : Nat) (hx : a.eval x = .pointer (some ⟨b, o, none⟩)) (cs : List Value) (d : TypeDesc) (hc : w.rangeAt b o cs)
    (hu : P.underlying ty = some d) (hd : d.isRow = true) (hi : (P.info? ty).map (·.size) = some cs.length)
    (h : wpList P ops Q rest (a.put op.dst (.agg cs.toArray)) w) : wpList P ops Q (op :: rest) a w :=
  wpList_step fun K hK => by
    simp only [hgd, if_true]
    exact wp_load_mid ty x ho b o hx cs d hc hu hd hi (hK _ _ h)
section
variable {H : Type} {enc : TypeId × Value → H} {W : World} {base : Nat} {v : Value}
theorem op_s4 (hv : Value.okWide Tryd.prog W .any base 39 v) (h : Tr enc W 39 v.cells.toList) : ∃ a b c d : List UInt8, v = .agg (flatS [a, b, c, d]).toArray ∧ a.length = 32 ∧ b.length = 32 ∧ c.length = 32 ∧ d.length = 32 := by
  have hk : Tryd.prog.cellsOf 23 = 32 := by kernel_rfl
  have hk2 : Tryd.prog.cellsOf 39 = 128 := by kernel_rfl
  obtain ⟨hl, hel⟩ := tr_array Tryd.underlying39 h
  rw [hk] at hel
  rw [hk2] at hl
  obtain ⟨l, hln, hq, he⟩ := chunks hcells (fun s => s.length = 32) 32 (fun s hs => by rw [hcells_length, hs]) 4 v.cells.toList (by rw [hl]) (fun i hi => by
    obtain ⟨s, hs, hw⟩ := tr_sum (hel i hi)
    exact ⟨s, hw, hs⟩)
  obtain ⟨cs, rfl, _⟩ := okWide_arr Tryd.underlying39 hv
  match l, hln with
  | [a, b, c, d], _ => exact ⟨a, b, c, d, agg_of he, hq a (by simp), hq b (by simp), hq c (by simp), hq d (by simp)⟩
end


set_option maxHeartbeats 4000000 in
theorem walk (s a b c f : List UInt8) (hs0 : s.length ≤ 9223372036854775807) (ha : a.length = 32) (hb : b.length = 32) (hc : c.length = 32) (hf : f.length = 32) (w : World) (KW : Keys w) :
    Calls Tryd.prog 7 #[.string (bs s), .agg (flatS [a, b, c, f]).toArray] w fun e w' => e = .returned (.bool true) ∧ Ext w w' := by
  have hall : AllH [a, b, c, f] := AllH.cons ha (AllH.cons hb (AllH.cons hc (AllH.cons hf AllH.nil)))
  obtain ⟨p, hp⟩ : ∃ p, p = preB a b := ⟨_, rfl⟩
  obtain ⟨q, hq⟩ : ∃ q, q = preB c f := ⟨_, rfl⟩
  obtain ⟨z, hz⟩ : ∃ z, z = nodeB a b := ⟨_, rfl⟩
  have hzl : z.length = 32 := by rw [hz]; exact nodeB_length _ _
  have hz2 : z = shaOf p := by rw [hz, hp]; rfl
  have hpl : (p.length : Int) = 65 := by rw [hp, preB_length]; omega
  have Hp := Lib.hid hp; have Hq := Lib.hid hq; have Hz := Lib.hid hz; have Hz2 := Lib.hid hz2
  clear hp hq hz hz2
  go_enter Tryd.func7, Tryd.ntmps7
  go_wp2_with fail
  have hX0 := Blk.new w 39 (flatS [a, b, c, f]).toArray
  have hE0 := (Ext.refl w).alloc (.cells (flatS [a, b, c, f]).toArray 39)
  generalize w.alloc (.cells (flatS [a, b, c, f]).toArray 39) = w0 at *
  refine (awake09_calls _ (KW.ext hE0)).mono ?_; rintro e w2 ⟨rfl, e2⟩
  have hX := Blk.below hX0 e2 hX0.lt
  have hE2 := hE0.trans e2
  have hgl := hX.lt
  have hm0 : w2.rangeAt w.heap.size 0 (hcells a) := blk_mid hX hall 0 (by simp)
  have hm1 : w2.rangeAt w.heap.size 32 (hcells b) := blk_mid hX hall 1 (by simp)
  have hm2 : w2.rangeAt w.heap.size 64 (hcells c) := blk_mid hX hall 2 (by simp)
  have hm3 : w2.rangeAt w.heap.size 96 (hcells f) := blk_mid hX hall 3 (by simp)
  clear hX0 hE0 e2 hX
  by_cases hlt : 100 < s.length
  · have hI : (100 : Int) < (s.length : Int) := by omega
    obtain ⟨d, hd⟩ : ∃ d, d = (s.take 100) := ⟨_, rfl⟩
    have hds : bs (s.take 100) = bs d := by rw [hd]
    have hdl : d.length ≤ 100 := by rw [hd]; simp; omega
    clear hd
    have hd1 : ¬ (9223372036854775807 < (1 : Nat) + d.length) := by omega
    have hn1 : (p == 0 :: d) = false := by rw [beq_eq_false_iff_ne, Hp.out]; intro e; injection e with e _; exact absurd e (by decide)
    have hn0 : ((⟨#[0]⟩ : ByteArray) ++ bs d).toList = 0 :: d := by rw [show (⟨#[0]⟩ : ByteArray) = bs [0] from rfl, bs_append, bs_toList2]; rfl
    have hn2 : (p == ((⟨#[0]⟩ : ByteArray) ++ bs d).toList) = false := by rw [hn0]; exact hn1
    have hn3 : ¬ p = ((⟨#[0]⟩ : ByteArray) ++ bs d).toList := fun e => by rw [e] at hn2; simp at hn2
    clear hn0 hn1
    go_wp2_with (refine stop_load 23 (.tmp 14) rfl ?_)
    refine ⟨?_⟩
    refine load_mid_g (by rfl) 23 (.tmp 14) rfl w.heap.size 0 (by rfl) (hcells a) _ hm0 Tryd.underlying23 rfl (size32l _ ha) ?_
    simp only [Act.put, List.setIfInBounds_toArray, List.set_cons_zero, List.set_cons_succ]
    go_wp2_with (refine stop_load 23 (.tmp 16) rfl ?_)
    refine ⟨?_⟩
    refine load_mid_g (by rfl) 23 (.tmp 16) rfl w.heap.size 32 (by rfl) (hcells b) _ hm1 Tryd.underlying23 rfl (size32l _ hb) ?_
    simp only [Act.put, List.setIfInBounds_toArray, List.set_cons_zero, List.set_cons_succ]
    go_wp2_with fail
    change Calls _ _ #[sumV a, sumV b] _ _
    refine (Preimage_calls a b ha hb _).mono ?_; rw [← Hp.out]; rintro e w3 ⟨rfl, e3⟩
    have hm0 := range_ext hm0 e3 hgl
    have hm1 := range_ext hm1 e3 hgl
    have hm2 := range_ext hm2 e3 hgl
    have hm3 := range_ext hm3 e3 hgl
    have hgl := Nat.lt_of_lt_of_le hgl e3.size
    go_wp2_with (refine stop_load 23 (.tmp 19) rfl ?_)
    refine ⟨?_⟩
    refine load_mid_g (by rfl) 23 (.tmp 19) rfl w.heap.size 64 (by rfl) (hcells c) _ hm2 Tryd.underlying23 rfl (size32l _ hc) ?_
    simp only [Act.put, List.setIfInBounds_toArray, List.set_cons_zero, List.set_cons_succ]
    go_wp2_with (refine stop_load 23 (.tmp 21) rfl ?_)
    refine ⟨?_⟩
    refine load_mid_g (by rfl) 23 (.tmp 21) rfl w.heap.size 96 (by rfl) (hcells f) _ hm3 Tryd.underlying23 rfl (size32l _ hf) ?_
    simp only [Act.put, List.setIfInBounds_toArray, List.set_cons_zero, List.set_cons_succ]
    go_wp2_with fail
    change Calls _ _ #[sumV c, sumV f] _ _
    refine (Preimage_calls c f hc hf _).mono ?_; rw [← Hq.out]; rintro e w4 ⟨rfl, e4⟩
    have hm0 := range_ext hm0 e4 hgl
    have hm1 := range_ext hm1 e4 hgl
    have hm2 := range_ext hm2 e4 hgl
    have hm3 := range_ext hm3 e4 hgl
    have hgl := Nat.lt_of_lt_of_le hgl e4.size
    have hE4 := (hE2.trans e3).trans e4
    have hgw := guard_sum
    have heq1 := fun w : World => eq_sum a c ha hc w
    have heq2 := fun w : World => eq_sum b f hb hf w
    have heq3 := fun w : World => eq_sum z z hzl hzl w
    rcases (show (a = c ∧ b = f) ∨ (a = c ∧ b ≠ f) ∨ a ≠ c from by by_cases h1 : a = c <;> by_cases h2 : b = f <;> simp [h1, h2]) with ⟨hac, hbf⟩ | ⟨hac, hbf⟩ | hac
    · have d1 : decide (a = c) = true := by simp [hac]
      have d2 : decide (b = f) = true := by simp [hbf]
      have hpq : (p == q) = true := by
        rw [beq_iff_eq, Hp.out, Hq.out]
        rw [hac, hbf]
      simp only [d1, d2] at heq1 heq2
      clear hac hbf
      go_wp2_with (refine stop_load 23 (.tmp 40) rfl ?_)
      refine ⟨?_⟩
      refine load_mid_g (by rfl) 23 (.tmp 40) rfl w.heap.size 0 (by rfl) (hcells a) _ hm0 Tryd.underlying23 rfl (size32l _ ha) ?_
      simp only [Act.put, List.setIfInBounds_toArray, List.set_cons_zero, List.set_cons_succ]
      go_wp2_with (refine stop_load 23 (.tmp 42) rfl ?_)
      refine ⟨?_⟩
      refine load_mid_g (by rfl) 23 (.tmp 42) rfl w.heap.size 64 (by rfl) (hcells c) _ hm2 Tryd.underlying23 rfl (size32l _ hc) ?_
      simp only [Act.put, List.setIfInBounds_toArray, List.set_cons_zero, List.set_cons_succ]
      unfold hcells
      go_wp2_with (refine stop_load 23 (.tmp 46) rfl ?_)
      refine ⟨?_⟩
      refine load_mid_g (by rfl) 23 (.tmp 46) rfl w.heap.size 32 (by rfl) (hcells b) _ hm1 Tryd.underlying23 rfl (size32l _ hb) ?_
      simp only [Act.put, List.setIfInBounds_toArray, List.set_cons_zero, List.set_cons_succ]
      go_wp2_with (refine stop_load 23 (.tmp 48) rfl ?_)
      refine ⟨?_⟩
      refine load_mid_g (by rfl) 23 (.tmp 48) rfl w.heap.size 96 (by rfl) (hcells f) _ hm3 Tryd.underlying23 rfl (size32l _ hf) ?_
      simp only [Act.put, List.setIfInBounds_toArray, List.set_cons_zero, List.set_cons_succ]
      unfold hcells
      go_wp2_with (refine stop_load 23 (.tmp 55) rfl ?_)
      refine ⟨?_⟩
      refine load_mid_g (by rfl) 23 (.tmp 55) rfl w.heap.size 0 (by rfl) (hcells a) _ hm0 Tryd.underlying23 rfl (size32l _ ha) ?_
      simp only [Act.put, List.setIfInBounds_toArray, List.set_cons_zero, List.set_cons_succ]
      go_wp2_with (refine stop_load 23 (.tmp 57) rfl ?_)
      refine ⟨?_⟩
      refine load_mid_g (by rfl) 23 (.tmp 57) rfl w.heap.size 32 (by rfl) (hcells b) _ hm1 Tryd.underlying23 rfl (size32l _ hb) ?_
      simp only [Act.put, List.setIfInBounds_toArray, List.set_cons_zero, List.set_cons_succ]
      go_wp2_with fail
      change Calls _ _ #[sumV a, sumV b] _ _
      refine (Node_calls a b ha hb _ (KW.ext hE4)).mono ?_; rw [← Hz.out]; rintro e w5 ⟨rfl, e5⟩
      unfold sumV
      go_wp2_with fail
      refine (refOf_calls p _ (by rw [Hp.out, preB_length]; omega)).mono ?_; rw [← Hz2.out]; rintro e w6 ⟨rfl, e6⟩
      unfold sumV
      go_wp2_with fail
      go_ret
      exact ⟨rfl, (hE4.trans e5).trans e6⟩
    · have d1 : decide (a = c) = true := by simp [hac]
      have d2 : decide (b = f) = false := by simp [hbf]
      have hpq : (p == q) = false := by
        rw [beq_eq_false_iff_ne, Hp.out, Hq.out]
        intro e
        obtain ⟨x1, x2⟩ := pre_inj ha hc e
        exact hbf x2
      simp only [d1, d2] at heq1 heq2
      clear hac hbf
      go_wp2_with (refine stop_load 23 (.tmp 40) rfl ?_)
      refine ⟨?_⟩
      refine load_mid_g (by rfl) 23 (.tmp 40) rfl w.heap.size 0 (by rfl) (hcells a) _ hm0 Tryd.underlying23 rfl (size32l _ ha) ?_
      simp only [Act.put, List.setIfInBounds_toArray, List.set_cons_zero, List.set_cons_succ]
      go_wp2_with (refine stop_load 23 (.tmp 42) rfl ?_)
      refine ⟨?_⟩
      refine load_mid_g (by rfl) 23 (.tmp 42) rfl w.heap.size 64 (by rfl) (hcells c) _ hm2 Tryd.underlying23 rfl (size32l _ hc) ?_
      simp only [Act.put, List.setIfInBounds_toArray, List.set_cons_zero, List.set_cons_succ]
      unfold hcells
      go_wp2_with (refine stop_load 23 (.tmp 46) rfl ?_)
      refine ⟨?_⟩
      refine load_mid_g (by rfl) 23 (.tmp 46) rfl w.heap.size 32 (by rfl) (hcells b) _ hm1 Tryd.underlying23 rfl (size32l _ hb) ?_
      simp only [Act.put, List.setIfInBounds_toArray, List.set_cons_zero, List.set_cons_succ]
      go_wp2_with (refine stop_load 23 (.tmp 48) rfl ?_)
      refine ⟨?_⟩
      refine load_mid_g (by rfl) 23 (.tmp 48) rfl w.heap.size 96 (by rfl) (hcells f) _ hm3 Tryd.underlying23 rfl (size32l _ hf) ?_
      simp only [Act.put, List.setIfInBounds_toArray, List.set_cons_zero, List.set_cons_succ]
      unfold hcells
      go_wp2_with (refine stop_load 23 (.tmp 55) rfl ?_)
      refine ⟨?_⟩
      refine load_mid_g (by rfl) 23 (.tmp 55) rfl w.heap.size 0 (by rfl) (hcells a) _ hm0 Tryd.underlying23 rfl (size32l _ ha) ?_
      simp only [Act.put, List.setIfInBounds_toArray, List.set_cons_zero, List.set_cons_succ]
      go_wp2_with (refine stop_load 23 (.tmp 57) rfl ?_)
      refine ⟨?_⟩
      refine load_mid_g (by rfl) 23 (.tmp 57) rfl w.heap.size 32 (by rfl) (hcells b) _ hm1 Tryd.underlying23 rfl (size32l _ hb) ?_
      simp only [Act.put, List.setIfInBounds_toArray, List.set_cons_zero, List.set_cons_succ]
      go_wp2_with fail
      change Calls _ _ #[sumV a, sumV b] _ _
      refine (Node_calls a b ha hb _ (KW.ext hE4)).mono ?_; rw [← Hz.out]; rintro e w5 ⟨rfl, e5⟩
      unfold sumV
      go_wp2_with fail
      refine (refOf_calls p _ (by rw [Hp.out, preB_length]; omega)).mono ?_; rw [← Hz2.out]; rintro e w6 ⟨rfl, e6⟩
      unfold sumV
      go_wp2_with fail
      go_ret
      exact ⟨rfl, (hE4.trans e5).trans e6⟩
    · have d1 : decide (a = c) = false := by simp [hac]
      have hpq : (p == q) = false := by
        rw [beq_eq_false_iff_ne, Hp.out, Hq.out]
        intro e
        obtain ⟨x1, x2⟩ := pre_inj ha hc e
        exact hac x1
      simp only [d1] at heq1 heq2
      clear hac
      go_wp2_with (refine stop_load 23 (.tmp 40) rfl ?_)
      refine ⟨?_⟩
      refine load_mid_g (by rfl) 23 (.tmp 40) rfl w.heap.size 0 (by rfl) (hcells a) _ hm0 Tryd.underlying23 rfl (size32l _ ha) ?_
      simp only [Act.put, List.setIfInBounds_toArray, List.set_cons_zero, List.set_cons_succ]
      go_wp2_with (refine stop_load 23 (.tmp 42) rfl ?_)
      refine ⟨?_⟩
      refine load_mid_g (by rfl) 23 (.tmp 42) rfl w.heap.size 64 (by rfl) (hcells c) _ hm2 Tryd.underlying23 rfl (size32l _ hc) ?_
      simp only [Act.put, List.setIfInBounds_toArray, List.set_cons_zero, List.set_cons_succ]
      unfold hcells
      go_wp2_with (refine stop_load 23 (.tmp 55) rfl ?_)
      refine ⟨?_⟩
      refine load_mid_g (by rfl) 23 (.tmp 55) rfl w.heap.size 0 (by rfl) (hcells a) _ hm0 Tryd.underlying23 rfl (size32l _ ha) ?_
      simp only [Act.put, List.setIfInBounds_toArray, List.set_cons_zero, List.set_cons_succ]
      go_wp2_with (refine stop_load 23 (.tmp 57) rfl ?_)
      refine ⟨?_⟩
      refine load_mid_g (by rfl) 23 (.tmp 57) rfl w.heap.size 32 (by rfl) (hcells b) _ hm1 Tryd.underlying23 rfl (size32l _ hb) ?_
      simp only [Act.put, List.setIfInBounds_toArray, List.set_cons_zero, List.set_cons_succ]
      go_wp2_with fail
      change Calls _ _ #[sumV a, sumV b] _ _
      refine (Node_calls a b ha hb _ (KW.ext hE4)).mono ?_; rw [← Hz.out]; rintro e w5 ⟨rfl, e5⟩
      unfold sumV
      go_wp2_with fail
      refine (refOf_calls p _ (by rw [Hp.out, preB_length]; omega)).mono ?_; rw [← Hz2.out]; rintro e w6 ⟨rfl, e6⟩
      unfold sumV
      go_wp2_with fail
      go_ret
      exact ⟨rfl, (hE4.trans e5).trans e6⟩
  · have hI : ¬ (100 : Int) < (s.length : Int) := by omega
    obtain ⟨d, hd⟩ : ∃ d, d = s := ⟨_, rfl⟩
    subst hd
    have hdl : d.length ≤ 100 := by omega
    have hd1 : ¬ (9223372036854775807 < (1 : Nat) + d.length) := by omega
    have hn1 : (p == 0 :: d) = false := by rw [beq_eq_false_iff_ne, Hp.out]; intro e; injection e with e _; exact absurd e (by decide)
    have hn0 : ((⟨#[0]⟩ : ByteArray) ++ bs d).toList = 0 :: d := by rw [show (⟨#[0]⟩ : ByteArray) = bs [0] from rfl, bs_append, bs_toList2]; rfl
    have hn2 : (p == ((⟨#[0]⟩ : ByteArray) ++ bs d).toList) = false := by rw [hn0]; exact hn1
    have hn3 : ¬ p = ((⟨#[0]⟩ : ByteArray) ++ bs d).toList := fun e => by rw [e] at hn2; simp at hn2
    clear hn0 hn1
    go_wp2_with (refine stop_load 23 (.tmp 14) rfl ?_)
    refine ⟨?_⟩
    refine load_mid_g (by rfl) 23 (.tmp 14) rfl w.heap.size 0 (by rfl) (hcells a) _ hm0 Tryd.underlying23 rfl (size32l _ ha) ?_
    simp only [Act.put, List.setIfInBounds_toArray, List.set_cons_zero, List.set_cons_succ]
    go_wp2_with (refine stop_load 23 (.tmp 16) rfl ?_)
    refine ⟨?_⟩
    refine load_mid_g (by rfl) 23 (.tmp 16) rfl w.heap.size 32 (by rfl) (hcells b) _ hm1 Tryd.underlying23 rfl (size32l _ hb) ?_
    simp only [Act.put, List.setIfInBounds_toArray, List.set_cons_zero, List.set_cons_succ]
    go_wp2_with fail
    change Calls _ _ #[sumV a, sumV b] _ _
    refine (Preimage_calls a b ha hb _).mono ?_; rw [← Hp.out]; rintro e w3 ⟨rfl, e3⟩
    have hm0 := range_ext hm0 e3 hgl
    have hm1 := range_ext hm1 e3 hgl
    have hm2 := range_ext hm2 e3 hgl
    have hm3 := range_ext hm3 e3 hgl
    have hgl := Nat.lt_of_lt_of_le hgl e3.size
    go_wp2_with (refine stop_load 23 (.tmp 19) rfl ?_)
    refine ⟨?_⟩
    refine load_mid_g (by rfl) 23 (.tmp 19) rfl w.heap.size 64 (by rfl) (hcells c) _ hm2 Tryd.underlying23 rfl (size32l _ hc) ?_
    simp only [Act.put, List.setIfInBounds_toArray, List.set_cons_zero, List.set_cons_succ]
    go_wp2_with (refine stop_load 23 (.tmp 21) rfl ?_)
    refine ⟨?_⟩
    refine load_mid_g (by rfl) 23 (.tmp 21) rfl w.heap.size 96 (by rfl) (hcells f) _ hm3 Tryd.underlying23 rfl (size32l _ hf) ?_
    simp only [Act.put, List.setIfInBounds_toArray, List.set_cons_zero, List.set_cons_succ]
    go_wp2_with fail
    change Calls _ _ #[sumV c, sumV f] _ _
    refine (Preimage_calls c f hc hf _).mono ?_; rw [← Hq.out]; rintro e w4 ⟨rfl, e4⟩
    have hm0 := range_ext hm0 e4 hgl
    have hm1 := range_ext hm1 e4 hgl
    have hm2 := range_ext hm2 e4 hgl
    have hm3 := range_ext hm3 e4 hgl
    have hgl := Nat.lt_of_lt_of_le hgl e4.size
    have hE4 := (hE2.trans e3).trans e4
    have hgw := guard_sum
    have heq1 := fun w : World => eq_sum a c ha hc w
    have heq2 := fun w : World => eq_sum b f hb hf w
    have heq3 := fun w : World => eq_sum z z hzl hzl w
    rcases (show (a = c ∧ b = f) ∨ (a = c ∧ b ≠ f) ∨ a ≠ c from by by_cases h1 : a = c <;> by_cases h2 : b = f <;> simp [h1, h2]) with ⟨hac, hbf⟩ | ⟨hac, hbf⟩ | hac
    · have d1 : decide (a = c) = true := by simp [hac]
      have d2 : decide (b = f) = true := by simp [hbf]
      have hpq : (p == q) = true := by
        rw [beq_iff_eq, Hp.out, Hq.out]
        rw [hac, hbf]
      simp only [d1, d2] at heq1 heq2
      clear hac hbf
      go_wp2_with (refine stop_load 23 (.tmp 40) rfl ?_)
      refine ⟨?_⟩
      refine load_mid_g (by rfl) 23 (.tmp 40) rfl w.heap.size 0 (by rfl) (hcells a) _ hm0 Tryd.underlying23 rfl (size32l _ ha) ?_
      simp only [Act.put, List.setIfInBounds_toArray, List.set_cons_zero, List.set_cons_succ]
      go_wp2_with (refine stop_load 23 (.tmp 42) rfl ?_)
      refine ⟨?_⟩
      refine load_mid_g (by rfl) 23 (.tmp 42) rfl w.heap.size 64 (by rfl) (hcells c) _ hm2 Tryd.underlying23 rfl (size32l _ hc) ?_
      simp only [Act.put, List.setIfInBounds_toArray, List.set_cons_zero, List.set_cons_succ]
      unfold hcells
      go_wp2_with (refine stop_load 23 (.tmp 46) rfl ?_)
      refine ⟨?_⟩
      refine load_mid_g (by rfl) 23 (.tmp 46) rfl w.heap.size 32 (by rfl) (hcells b) _ hm1 Tryd.underlying23 rfl (size32l _ hb) ?_
      simp only [Act.put, List.setIfInBounds_toArray, List.set_cons_zero, List.set_cons_succ]
      go_wp2_with (refine stop_load 23 (.tmp 48) rfl ?_)
      refine ⟨?_⟩
      refine load_mid_g (by rfl) 23 (.tmp 48) rfl w.heap.size 96 (by rfl) (hcells f) _ hm3 Tryd.underlying23 rfl (size32l _ hf) ?_
      simp only [Act.put, List.setIfInBounds_toArray, List.set_cons_zero, List.set_cons_succ]
      unfold hcells
      go_wp2_with (refine stop_load 23 (.tmp 55) rfl ?_)
      refine ⟨?_⟩
      refine load_mid_g (by rfl) 23 (.tmp 55) rfl w.heap.size 0 (by rfl) (hcells a) _ hm0 Tryd.underlying23 rfl (size32l _ ha) ?_
      simp only [Act.put, List.setIfInBounds_toArray, List.set_cons_zero, List.set_cons_succ]
      go_wp2_with (refine stop_load 23 (.tmp 57) rfl ?_)
      refine ⟨?_⟩
      refine load_mid_g (by rfl) 23 (.tmp 57) rfl w.heap.size 32 (by rfl) (hcells b) _ hm1 Tryd.underlying23 rfl (size32l _ hb) ?_
      simp only [Act.put, List.setIfInBounds_toArray, List.set_cons_zero, List.set_cons_succ]
      go_wp2_with fail
      change Calls _ _ #[sumV a, sumV b] _ _
      refine (Node_calls a b ha hb _ (KW.ext hE4)).mono ?_; rw [← Hz.out]; rintro e w5 ⟨rfl, e5⟩
      unfold sumV
      go_wp2_with fail
      refine (refOf_calls p _ (by rw [Hp.out, preB_length]; omega)).mono ?_; rw [← Hz2.out]; rintro e w6 ⟨rfl, e6⟩
      unfold sumV
      go_wp2_with fail
      go_ret
      exact ⟨rfl, (hE4.trans e5).trans e6⟩
    · have d1 : decide (a = c) = true := by simp [hac]
      have d2 : decide (b = f) = false := by simp [hbf]
      have hpq : (p == q) = false := by
        rw [beq_eq_false_iff_ne, Hp.out, Hq.out]
        intro e
        obtain ⟨x1, x2⟩ := pre_inj ha hc e
        exact hbf x2
      simp only [d1, d2] at heq1 heq2
      clear hac hbf
      go_wp2_with (refine stop_load 23 (.tmp 40) rfl ?_)
      refine ⟨?_⟩
      refine load_mid_g (by rfl) 23 (.tmp 40) rfl w.heap.size 0 (by rfl) (hcells a) _ hm0 Tryd.underlying23 rfl (size32l _ ha) ?_
      simp only [Act.put, List.setIfInBounds_toArray, List.set_cons_zero, List.set_cons_succ]
      go_wp2_with (refine stop_load 23 (.tmp 42) rfl ?_)
      refine ⟨?_⟩
      refine load_mid_g (by rfl) 23 (.tmp 42) rfl w.heap.size 64 (by rfl) (hcells c) _ hm2 Tryd.underlying23 rfl (size32l _ hc) ?_
      simp only [Act.put, List.setIfInBounds_toArray, List.set_cons_zero, List.set_cons_succ]
      unfold hcells
      go_wp2_with (refine stop_load 23 (.tmp 46) rfl ?_)
      refine ⟨?_⟩
      refine load_mid_g (by rfl) 23 (.tmp 46) rfl w.heap.size 32 (by rfl) (hcells b) _ hm1 Tryd.underlying23 rfl (size32l _ hb) ?_
      simp only [Act.put, List.setIfInBounds_toArray, List.set_cons_zero, List.set_cons_succ]
      go_wp2_with (refine stop_load 23 (.tmp 48) rfl ?_)
      refine ⟨?_⟩
      refine load_mid_g (by rfl) 23 (.tmp 48) rfl w.heap.size 96 (by rfl) (hcells f) _ hm3 Tryd.underlying23 rfl (size32l _ hf) ?_
      simp only [Act.put, List.setIfInBounds_toArray, List.set_cons_zero, List.set_cons_succ]
      unfold hcells
      go_wp2_with (refine stop_load 23 (.tmp 55) rfl ?_)
      refine ⟨?_⟩
      refine load_mid_g (by rfl) 23 (.tmp 55) rfl w.heap.size 0 (by rfl) (hcells a) _ hm0 Tryd.underlying23 rfl (size32l _ ha) ?_
      simp only [Act.put, List.setIfInBounds_toArray, List.set_cons_zero, List.set_cons_succ]
      go_wp2_with (refine stop_load 23 (.tmp 57) rfl ?_)
      refine ⟨?_⟩
      refine load_mid_g (by rfl) 23 (.tmp 57) rfl w.heap.size 32 (by rfl) (hcells b) _ hm1 Tryd.underlying23 rfl (size32l _ hb) ?_
      simp only [Act.put, List.setIfInBounds_toArray, List.set_cons_zero, List.set_cons_succ]
      go_wp2_with fail
      change Calls _ _ #[sumV a, sumV b] _ _
      refine (Node_calls a b ha hb _ (KW.ext hE4)).mono ?_; rw [← Hz.out]; rintro e w5 ⟨rfl, e5⟩
      unfold sumV
      go_wp2_with fail
      refine (refOf_calls p _ (by rw [Hp.out, preB_length]; omega)).mono ?_; rw [← Hz2.out]; rintro e w6 ⟨rfl, e6⟩
      unfold sumV
      go_wp2_with fail
      go_ret
      exact ⟨rfl, (hE4.trans e5).trans e6⟩
    · have d1 : decide (a = c) = false := by simp [hac]
      have hpq : (p == q) = false := by
        rw [beq_eq_false_iff_ne, Hp.out, Hq.out]
        intro e
        obtain ⟨x1, x2⟩ := pre_inj ha hc e
        exact hac x1
      simp only [d1] at heq1 heq2
      clear hac
      go_wp2_with (refine stop_load 23 (.tmp 40) rfl ?_)
      refine ⟨?_⟩
      refine load_mid_g (by rfl) 23 (.tmp 40) rfl w.heap.size 0 (by rfl) (hcells a) _ hm0 Tryd.underlying23 rfl (size32l _ ha) ?_
      simp only [Act.put, List.setIfInBounds_toArray, List.set_cons_zero, List.set_cons_succ]
      go_wp2_with (refine stop_load 23 (.tmp 42) rfl ?_)
      refine ⟨?_⟩
      refine load_mid_g (by rfl) 23 (.tmp 42) rfl w.heap.size 64 (by rfl) (hcells c) _ hm2 Tryd.underlying23 rfl (size32l _ hc) ?_
      simp only [Act.put, List.setIfInBounds_toArray, List.set_cons_zero, List.set_cons_succ]
      unfold hcells
      go_wp2_with (refine stop_load 23 (.tmp 55) rfl ?_)
      refine ⟨?_⟩
      refine load_mid_g (by rfl) 23 (.tmp 55) rfl w.heap.size 0 (by rfl) (hcells a) _ hm0 Tryd.underlying23 rfl (size32l _ ha) ?_
      simp only [Act.put, List.setIfInBounds_toArray, List.set_cons_zero, List.set_cons_succ]
      go_wp2_with (refine stop_load 23 (.tmp 57) rfl ?_)
      refine ⟨?_⟩
      refine load_mid_g (by rfl) 23 (.tmp 57) rfl w.heap.size 32 (by rfl) (hcells b) _ hm1 Tryd.underlying23 rfl (size32l _ hb) ?_
      simp only [Act.put, List.setIfInBounds_toArray, List.set_cons_zero, List.set_cons_succ]
      go_wp2_with fail
      change Calls _ _ #[sumV a, sumV b] _ _
      refine (Node_calls a b ha hb _ (KW.ext hE4)).mono ?_; rw [← Hz.out]; rintro e w5 ⟨rfl, e5⟩
      unfold sumV
      go_wp2_with fail
      refine (refOf_calls p _ (by rw [Hp.out, preB_length]; omega)).mono ?_; rw [← Hz2.out]; rintro e w6 ⟨rfl, e6⟩
      unfold sumV
      go_wp2_with fail
      go_ret
      exact ⟨rfl, (hE4.trans e5).trans e6⟩

set_option maxRecDepth 100000 in
theorem contract (H : Type) (enc : TypeId × Value → H) (W : World) (base : Nat) (args : Array Value) (ds gs : List (DataW H)) (before : List MemPlace)
    (hval0 : ∀ (j : Nat) t v, Tryd.f7.params[j]? = some t → args[j]? = some v → Value.okWide Tryd.prog W .any base t v)
    (hW : DataW.Whole enc Tryd.prog Tryd.f7.params.toList Rows.leafApartSpec.vars false W args.toList ds gs before) (hL : laidMetH Tryd.prog Rows.leafApartRow.laid W) :
    Calls Tryd.prog 7 args W fun e W' => ∃ v, e = .returned v ∧ Rows.leafApartSpec.post enc Tryd.prog Tryd.f7 false true false false W args v W' := by
  have K : Keys W := keys_of hL
  have hval : ∀ (j : Nat) t v, Tryd.f7.params[j]? = some t → args[j]? = some v → Value.okWide Tryd.prog W .any base t v := hval0
  have hW' := hW
  obtain ⟨p, q, hA0, hV, rfl, hfz, hnd⟩ := hW
  have hA : DataW.TrodAll enc Tryd.prog W 0 (fun _ => true) true Tryd.f7.params.toList args.toList ds p := hA0
  rw [Tryd.params7] at hA hval
  obtain ⟨v0, vs0, d0, ds0, p0, q0, hargs, rfl, rfl, hx0, r0⟩ := trodAll_cons hA
  obtain ⟨v1, vs1, d1, ds1, p1, q1, rfl, rfl, rfl, hx1, r1⟩ := trodAll_cons r0
  obtain ⟨rfl, rfl, rfl⟩ := trodAll_nil r1
  obtain rfl : args = #[v0, v1] := by cases args; simp_all
  obtain ⟨rfl, rfl⟩ := trodVars_none hV
  obtain ⟨s, rfl, hs⟩ := op_str (hval 0 9 v0 rfl rfl) (tr_of hx0)
  obtain ⟨l1, l2, l3, l4, rfl, hl1, hl2, hl3, hl4⟩ := op_s4 (hval 1 39 v1 rfl rfl) (tr_of hx1)
  refine (walk s l1 l2 l3 l4 hs hl1 hl2 hl3 hl4 W K).mono fun e W' ⟨he, hg⟩ => ?_
  subst he
  exact ⟨_, rfl, law_post hW' rfl rfl (by kernel_rfl) rfl rfl rfl hg⟩

theorem laid_met (os : Os) : laidMet Tryd.prog Rows.leafApartRow.laid ((keysWorld os).forCall (fun _ _ => 0) ⟨#[], #[.string .empty, .agg (Array.replicate 128 (.int .u8 0))], []⟩).memory :=
  laidMet_of_run' 8 (by kernel_rfl) (by kernel_rfl)
theorem reads (os : Os) {H : Type} (enc : TypeId × Value → H) : ∃ x, DataW.whole enc Tryd.prog ((keysWorld os).forCall (fun _ _ => 0) ⟨#[], #[.string .empty, .agg (Array.replicate 128 (.int .u8 0))], []⟩).memory Tryd.f7.params.toList Rows.leafApartSpec.vars false (#[.string .empty, .agg (Array.replicate 128 (.int .u8 0))] : Array Value).toList 8 = some x :=
  Option.isSome_iff_exists.1 (by kernel_rfl)
set_option maxRecDepth 100000 in
theorem lifted (os : Os) (started : os.Started) (H : Type) (enc : TypeId × Value → H) (F : Stop.Interp) :
    ReturnsInHanded {} Tryd.checked os 7 .any ((OpenSpec.ofChange Rows.leafApartSpec).preRow enc Tryd.prog Tryd.f7 Rows.leafApartRow.domain false Rows.leafApartRow.laid) (((OpenSpec.ofChange Rows.leafApartSpec).at F).post enc Tryd.prog Tryd.f7 false true false false) := by
  obtain ⟨x, hx⟩ := reads os enc
  refine returnsInHanded_of_row (C := Tryd.checked) (s := OpenSpec.ofChange Rows.leafApartSpec) own_ started (by kernel_rfl) Tryd.func7
    (witness_row_at (enc := enc) (C := Tryd.checked) false (keysWorld os) #[.string .empty, .agg (Array.replicate 128 (.int .u8 0))] rfl (by kernel_rfl) (by kernel_rfl) (by kernel_rfl)
      (OpenSpec.preRow_of_cond 8 hx rfl (fun k hk => by cases hk) (by kernel_rfl) (laid_met os))) ?_
  intro W base args ds gs before hval hW _ _ _ hL _ _
  exact contract H enc W base args ds gs before hval hW hL

theorem said : Rows.LeafApartSaid :=
  OpenClaim.holds_of_cond 7 Tryd.f7 rfl rfl rfl rfl rfl rfl rfl ⟨rfl, rfl, rfl, rfl, rfl⟩ rfl rfl rfl rfl rfl (by kernel_rfl) Tryd.func7 (by kernel_rfl)
    (of_decide_eq_true (by kernel_rfl)) (by unfold Func.isWrapper; first | (rw [if_pos (by decide +kernel)]; kernel_rfl) | (rw [if_neg (by decide +kernel)]; exact ⟨rfl, rfl⟩))
    (fun os started H enc _ F => by rw [OpenClaim.pre_eq_preRow]; exact lifted os started H enc F)
theorem plain (f : FuncId) (fn : Func) (hf : Tryd.pinned.checked.prog.funcNamed "scrinium/scriniumlaw09.LeafApart" = some f) (hfn : Tryd.pinned.checked.prog.funcs[f]? = some fn) :
    false = Tryd.pinned.checked.prog.looks [] ∧ ∀ (j : Nat) t, fn.params[j]? = some t → Tryd.pinned.checked.prog.wantsStandIn t = false := by
  obtain rfl : f = 7 := Option.some.inj ((show Tryd.prog.funcNamed "scrinium/scriniumlaw09.LeafApart" = some 7 by kernel_rfl).symm.trans hf) |>.symm
  obtain rfl : fn = Tryd.f7 := (Option.some.inj (Tryd.func7.symm.trans hfn)).symm
  refine ⟨by kernel_rfl, fun j t ht => ?_⟩
  rw [Tryd.params7] at ht
  have hm : t ∈ ([9, 39] : List TypeId) := by simpa using Array.mem_of_getElem? ht
  have hall : (([9, 39] : List TypeId).all fun u => !Tryd.prog.wantsStandIn u) = true := by kernel_rfl
  exact (show Tryd.prog.wantsStandIn t = false by simpa using List.all_eq_true.1 hall t hm)
theorem proved : Rows.LeafApartCardSaid :=
  Claim7.holds_tied_plain_at .later [] _ _ _ _ said (fun _ h => by cases h) (by kernel_rfl) (fun _ h => by cases h) leafApart_row_tie rfl ⟨rfl, rfl⟩ (by kernel_rfl) rfl plain (by kernel_rfl)

end Go.Proofs.YtlcimlencoaiiaaDoor.leafApart
