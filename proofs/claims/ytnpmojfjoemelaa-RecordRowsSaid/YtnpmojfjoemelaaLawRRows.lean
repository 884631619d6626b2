/-
  scriniumlaw15.RecordRows: rows are written as the document says, and those of records that may be are read again.
-/
import Derived.Test.YtnpmojfjoemelaaRec5
set_option linter.unusedVariables false
set_option linter.unusedSimpArgs false
namespace Go.Proofs.Ytnpmojfjoemelaa.recordRows
open Go.ChangeShapes Go.WideShapes Go.ChangeAt Go.RowKit
attribute [local go_sem] bs_size bs_toList2 bs_append bs_extract_end bs_extract_begin bs_get wrap64_b

/-- The rows from number i on. -/
def mk (win : Int) : Nat → List Rc → List Rc
  | _, [] => []
  | i, r :: t => ⟨win, i, r.time, r.pay.take 100⟩ :: mk win (i + 1) t
theorem mk_snoc (win : Int) (i : Nat) (l : List Rc) (r : Rc) : mk win i (l ++ [r]) = mk win i l ++ [⟨win, (i + l.length : Nat), r.time, r.pay.take 100⟩] := by
  induction l generalizing i with
  | nil => rfl
  | cons q l ih =>
    simp only [List.cons_append, mk, ih, List.length_cons]
    congr 4
    omega
theorem mk_length (win : Int) (i : Nat) (l : List Rc) : (mk win i l).length = l.length := by
  induction l generalizing i with
  | nil => rfl
  | cons q l ih => simp [mk, ih]
theorem mk_pay (win : Int) (i : Nat) (l : List Rc) : ∀ r ∈ mk win i l, r.pay.length ≤ 100 := by
  induction l generalizing i with
  | nil => intro r hr; cases hr
  | cons q l ih =>
    intro r hr
    rcases List.mem_cons.1 hr with rfl | hr
    · simp; omega
    · exact ih _ r hr
def mkK (win : Int) (l : List Rc) (k : Nat) : List Rc := mk win 0 (l.take k)
theorem mkK_succ (win : Int) (l : List Rc) (k : Nat) (h : k < l.length) : mkK win l (k + 1) = mkK win l k ++ [⟨win, k, l[k].time, l[k].pay.take 100⟩] := by
  unfold mkK
  rw [List.take_succ_eq_append_getElem h, mk_snoc]
  have : (l.take k).length = k := by simp; omega
  rw [Nat.zero_add, this]
theorem mkK_length (win : Int) (l : List Rc) (k : Nat) (h : k ≤ l.length) : (mkK win l k).length = k := by
  unfold mkK; rw [mk_length]; simp; omega

/-- What was written is read. -/
theorem prs_row (win : Int) (l : List Rc) (i f : Nat) (hf : (Rc.row (mk win i l)).length < f) (h : ∀ r ∈ mk win i l, r.check = 0) : Rc.prs win f i ⟨Rc.row (mk win i l), false⟩ = some (mk win i l) := by
  induction l generalizing i f with
  | nil =>
    obtain ⟨f, rfl⟩ : ∃ f', f = f' + 1 := ⟨f - 1, by omega⟩
    rw [Rc.prs_end _ _ _ _ rfl]
    rfl
  | cons q l ih =>
    obtain ⟨f, rfl⟩ : ∃ f', f = f' + 1 := ⟨f - 1, by omega⟩
    obtain ⟨hm, hp⟩ := Rc.may_of _ (h _ (by rw [mk]; exact List.mem_cons_self))
    unfold Rc.may at hm
    simp only at hm hp
    have hu := Rc.u64_lt q.time
    have hid := Rc.u64_id q.time (by omega) (by omega)
    have hrow : Rc.row (mk win i (q :: l)) = Oct.put (Rc.u64 q.time) ++ (Oct.text (q.pay.take 100) ++ Rc.row (mk win (i + 1) l)) := by
      simp [mk, Rc.row, Rc.inRow]
    have hlt := Oct.text_length_ge (q.pay.take 100)
    have hpl := Oct.put_length (Rc.u64 q.time)
    rw [hrow] at hf ⊢
    simp only [List.length_append] at hf
    rw [Rc.prs_go _ _ _ _ (by intro h0; simp only [Oct.Sc.leftN, Bool.false_eq_true, if_false, List.length_append] at h0; omega) ⟨by omega, by omega, by omega⟩]
    rw [Oct.num_put (Rc.u64 q.time) (by omega) _ _ (by rw [hid]; omega)]
    rw [Oct.text_put (q.pay.take 100) (by omega) _ _ (by omega)]
    simp only
    rw [ih (i + 1) f (by omega) (fun r hr => h r (by rw [mk]; exact List.mem_cons_of_mem _ hr))]
    simp [mk, hid]

set_option maxHeartbeats 2000000 in
set_option maxRecDepth 100000 in
theorem walk (B : Nat) (A : Option Addr) (p : Nat) (l : List Rc) (win : Int) (w : World) (hB : B ≤ w.heap.size)
    (h1 : Rd w B A (l.flatMap Rc.cells)) (n1 : l.length ≤ 9223372036854775807) (q1 : ∀ r ∈ l, r.fit ∧ r.pay.length ≤ 9223372036854775807) :
    Calls Try.prog 13 #[.slice A l.length p, .int .i64 win] w fun e w' => e = .returned (.bool true) ∧ Ext w w' := by
  obtain ⟨i0, hi, hz0, hz1, hz2⟩ := info_parts info_rec
  go_enter Try.func13, Try.ntmps13
  go_wp2_with fail
  refine (awake15_calls _).mono ?_; rintro e w1 ⟨rfl, e1⟩
  go_wp2_with fail
  have hB1 : B ≤ w1.heap.size := Nat.le_trans hB e1.size
  go_loopw [6, 7, 8, 9] (fun m y z i wr => ∃ k : Nat, k ≤ l.length ∧ k ≤ 20 ∧ i = .int .i64 k ∧ y = .bool ((mkK win l k).all (fun r => r.check == 0)) ∧ z = .int .i64 (Rc.row (mkK win l k)).length ∧ wr.ownsRow w1.heap.size 28 4 m k ((mkK win l k).flatMap Rc.cells) ∧ Ext w wr ∧ w1.heap.size ≤ wr.heap.size) (fun _ _ _ i _ => 20 - (intOf i).toNat)
  case atStart => exact ⟨0, Nat.zero_le _, Nat.zero_le _, rfl, rfl, rfl, World.ownsRow_nil _ _ _ _, e1, Nat.le_refl _⟩
  case round =>
    obtain ⟨k, hk, hk20, rfl, rfl, rfl, hown, hE, hsz⟩ := hrel
    by_cases hlt : k < l.length ∧ k < 20
    · obtain ⟨hlt, hlt20⟩ := hlt
      obtain ⟨b, off, rfl, hbB, c0, c1, c2, c3⟩ := rec_cells (h1.below hE hB) hlt
      have hpk := (q1 _ (List.getElem_mem hlt)).2
      have HS := Lib.hid (mkK_succ win l k hlt)
      generalize l[k] = r at *
      have hk0 : (0 : Int) ≤ (k : Int) := by omega
      have hk1 : (k : Int) < (l.length : Int) := by omega
      have hbw : b < wr.heap.size := by omega
      have hbn : b ≠ wr.heap.size := by omega
      clear h1
      go_wp2_with fail
      go_region_law (first
        | (go_simp; go_at_call 22; refine (short15_calls r.pay 100 _ hpk (by omega)).mono ?_; rintro e w4 ⟨rfl, rfl⟩))
      all_goals
        have hr : RecAt ((wr.alloc (.cells #[.int .i64 win, .int .i64 k, .int .i64 r.time, .string (bs (r.pay.take 100))] 28)).drew) wr.heap.size ⟨win, k, r.time, r.pay.take 100⟩ := Blk.drew (Blk.new wr _ _)
        have hown' := (hown.alloc (.cells #[.int .i64 win, .int .i64 k, .int .i64 r.time, .string (bs (r.pay.take 100))] 28)).drew
        have hE' := (hE.alloc (.cells #[.int .i64 win, .int .i64 k, .int .i64 r.time, .string (bs (r.pay.take 100))] 28)).drew
        have hsz' : w1.heap.size ≤ ((wr.alloc (.cells #[.int .i64 win, .int .i64 k, .int .i64 r.time, .string (bs (r.pay.take 100))] 28)).drew).heap.size := by simp; omega
        generalize (wr.alloc (.cells #[.int .i64 win, .int .i64 k, .int .i64 r.time, .string (bs (r.pay.take 100))] 28)).drew = w2 at *
        clear hown hE c0 c1 c2 c3
        have hrk := Rc.row_length 100 (mkK win l k) (mk_pay win 0 _)
        have hkl := mkK_length win l k hk
        rw [hkl] at hrk
        have hil := Rc.inRow_length ⟨win, k, r.time, r.pay.take 100⟩
        have hp100 : (r.pay.take 100).length ≤ 100 := by simp; omega
        simp only at hil
        have hw9 : IntKind.i64.wrap (((Rc.row (mkK win l k)).length : Int) + ((Rc.inRow ⟨win, k, r.time, r.pay.take 100⟩).length : Int)) = ((Rc.row (mkK win l k)).length : Int) + ((Rc.inRow ⟨win, k, r.time, r.pay.take 100⟩).length : Int) := i64_eq rfl (by omega) (by omega)
        have hX : (mkK win l (k + 1)).flatMap Rc.cells = (mkK win l k).flatMap Rc.cells ++ Rc.cells ⟨win, k, r.time, r.pay.take 100⟩ := by
          rw [HS.out, List.flatMap_append]; simp
        have hrowK : (Rc.row (mkK win l (k + 1))).length = (Rc.row (mkK win l k)).length + (Rc.inRow ⟨win, k, r.time, r.pay.take 100⟩).length := by
          rw [HS.out, Rc.row_append, List.length_append]; simp [Rc.row]
        obtain ⟨d0, d1, d2, d3⟩ := hr.cells
        simp only at d0 d1 d2 d3
        cases hall : (mkK win l k).all (fun r => r.check == 0)
        · have hmayK : (mkK win l (k + 1)).all (fun r => r.check == 0) = false := by rw [HS.out]; simp [List.all_append, hall]
          clear hall
          go_wp2_with fail
          refine (recSize_calls ⟨win, k, r.time, r.pay.take 100⟩ _ (by simp only; omega)).mono ?_; rintro e w3 ⟨rfl, e3⟩
          have hr3 := hr.ext e3
          have hown3 := owns_ext hown' e3
          clear d0 d1 d2 d3
          obtain ⟨d0, d1, d2, d3⟩ := hr3.cells
          simp only at d0 d1 d2 d3
          have hnw := heap_alloc_new w3 (.cells #[.int .i64 win, .int .i64 k, .int .i64 r.time, .string (bs (r.pay.take 100))] 28 (0, 0))
          have hzW : w1.heap.size ≤ w3.heap.size := Nat.le_trans hsz' (e3).size
          go_wp2_with (at_builtin; refine wpList_append_own _ rfl _ _ 34 rfl w1.heap.size 28 i0 _ 4 40 Try.underlying34 hi hz0 hz1 hz2 rfl (by decide) _ k ((mkK win l k).flatMap Rc.cells) rfl (hown3.alloc _) ⟨w3.heap.size, 0, none⟩ 1 1 (Rc.cells ⟨win, k, r.time, r.pay.take 100⟩) rfl rfl (World.news_of_block (cs := #[.int .i64 win, .int .i64 k, .int .i64 r.time, .string (bs (r.pay.take 100))]) (t := 28) (fr := (0, 0)) hnw) (by intro u hu; simp [Rc.cells, strV] at hu; rcases hu with rfl | rfl | rfl | rfl <;> rfl) (by unfold maxLen; omega) (by omega) (by simp; omega) ?_; intro v7 w7 hown7 hgrow7 _)
          have E7 : Ext w w7 := ((hE'.trans e3).alloc (.cells #[.int .i64 win, .int .i64 k, .int .i64 r.time, .string (bs (r.pay.take 100))] 28)).grown hgrow7 (by have := (hE'.trans e3).size; simp at this ⊢; omega) (fun i hi => by have := (hown3.lt i hi).1; have := e1.size; omega)
          have E17 : w1.heap.size ≤ w7.heap.size := by have := hgrow7.size; simp at this; omega
          rw [← hX] at hown7
          clear hgrow7
          go_wp2
          go_roundw
          case rel => exact ⟨k + 1, by omega, by omega, by go_num, by rw [hmayK], by rw [hrowK]; rfl, hown7, E7, E17⟩
          case measure => simp [intOf]; omega
        · have hmayK : (mkK win l (k + 1)).all (fun r => r.check == 0) = ((Rc.check ⟨win, k, r.time, r.pay.take 100⟩) == 0) := by rw [HS.out]; simp [List.all_append, hall]
          clear hall
          go_wp2_with fail
          refine (refCheck_calls ⟨win, k, r.time, r.pay.take 100⟩ _ (by simp only; omega)).mono ?_; rintro e w3 ⟨rfl, e3⟩
          have hr3 := hr.ext e3
          have hown3 := owns_ext hown' e3
          clear d0 d1 d2 d3
          obtain ⟨d0, d1, d2, d3⟩ := hr3.cells
          simp only at d0 d1 d2 d3
          go_wp2_with fail
          refine (recSize_calls ⟨win, k, r.time, r.pay.take 100⟩ _ (by simp only; omega)).mono ?_; rintro e w4 ⟨rfl, e4⟩
          have hr4 := hr3.ext e4
          have hown4 := owns_ext hown3 e4
          have e34 := e3.trans e4
          clear d0 d1 d2 d3
          obtain ⟨d0, d1, d2, d3⟩ := hr4.cells
          simp only at d0 d1 d2 d3
          have hnw := heap_alloc_new w4 (.cells #[.int .i64 win, .int .i64 k, .int .i64 r.time, .string (bs (r.pay.take 100))] 28 (0, 0))
          have hzW : w1.heap.size ≤ w4.heap.size := Nat.le_trans hsz' (e34).size
          go_wp2_with (at_builtin; refine wpList_append_own _ rfl _ _ 34 rfl w1.heap.size 28 i0 _ 4 40 Try.underlying34 hi hz0 hz1 hz2 rfl (by decide) _ k ((mkK win l k).flatMap Rc.cells) rfl (hown4.alloc _) ⟨w4.heap.size, 0, none⟩ 1 1 (Rc.cells ⟨win, k, r.time, r.pay.take 100⟩) rfl rfl (World.news_of_block (cs := #[.int .i64 win, .int .i64 k, .int .i64 r.time, .string (bs (r.pay.take 100))]) (t := 28) (fr := (0, 0)) hnw) (by intro u hu; simp [Rc.cells, strV] at hu; rcases hu with rfl | rfl | rfl | rfl <;> rfl) (by unfold maxLen; omega) (by omega) (by simp; omega) ?_; intro v7 w7 hown7 hgrow7 _)
          have E7 : Ext w w7 := ((hE'.trans e34).alloc (.cells #[.int .i64 win, .int .i64 k, .int .i64 r.time, .string (bs (r.pay.take 100))] 28)).grown hgrow7 (by have := (hE'.trans e34).size; simp at this ⊢; omega) (fun i hi => by have := (hown4.lt i hi).1; have := e1.size; omega)
          have E17 : w1.heap.size ≤ w7.heap.size := by have := hgrow7.size; simp at this; omega
          rw [← hX] at hown7
          clear hgrow7
          go_wp2
          go_roundw
          case rel => exact ⟨k + 1, by omega, by omega, by go_num, by rw [hmayK], by rw [hrowK]; rfl, hown7, E7, E17⟩
          case measure => simp [intOf]; omega
    · have hkl := mkK_length win l k hk
      have hpay := mk_pay win 0 (l.take k)
      have hrk := Rc.row_length 100 (mkK win l k) (mk_pay win 0 _)
      have hrd : (∀ r ∈ mkK win l k, r.check = 0) → Rc.rows win (Rc.row (mkK win l k)) = (mkK win l k, 0) := by
        intro h
        unfold Rc.rows
        rw [show Rc.prs win ((Rc.row (mkK win l k)).length + 1) 0 ⟨Rc.row (mkK win l k), false⟩ = some (mkK win l k) from prs_row win (l.take k) 0 _ (Nat.lt_succ_self _) h]
      have HRD := Lib.hid hrd
      clear hrd
      change ∀ r ∈ mkK win l k, r.pay.length ≤ 100 at hpay
      obtain ⟨X, c, rfl, hF, hN⟩ := own_slice hown
      generalize mkK win l k = m at *
      subst hkl
      clear hown
      rcases (show (¬ m.length < l.length) ∨ (m.length < l.length ∧ ¬ m.length < 20) from by omega) with hn | ⟨hq, hn⟩
      all_goals
        go_wp2_with fail
        (with_reducible refine (recRow_calls wr.heap.size X c m _ hF.rd (Nat.le_refl _) (by omega) (fun r hr => by have := hpay r hr; omega) (by omega)).mono ?_); rintro e w2 ⟨rfl, e2⟩
        go_wp2_with fail
        (with_reducible refine (refRow_calls w2.heap.size X c m _ (hF.ext e2).rd (Nat.le_refl _) (by omega) (fun r hr => by have := hpay r hr; omega) (by omega)).mono ?_); rintro e w3 ⟨rfl, e3⟩
        have E3 := (hE.trans e2).trans e3
        have hF3 := (hF.ext e2).ext e3
        clear e2 e3 hF hE
        cases hall : m.all (fun r => r.check == 0)
        · go_wp2_with fail
          go_ret
          exact ⟨rfl, E3⟩
        · have hch : ∀ r ∈ m, r.check = 0 := fun r hr => by
            have := List.all_eq_true.1 hall r hr
            simpa using this
          have HR := recRows_calls win (Rc.row m) w3 (by omega)
          rw [HRD.out hch] at HR
          replace HR := Lib.hid HR
          clear hall hch HRD
          go_wp2_with fail
          refine HR.out.mono ?_; rintro e w4 ⟨X4, c4, rfl, hF4, e4⟩
          go_wp2_with fail
          refine (Same15_calls w4.heap.size X4 X c4 c m _ hF4.rd (hF3.ext e4).rd (Nat.le_refl _) (by omega)).mono ?_; rintro e w5 ⟨rfl, e5⟩
          go_wp2_with fail
          go_ret
          exact ⟨rfl, (E3.trans e4).trans e5⟩

set_option maxRecDepth 100000 in
theorem lifted (os : Os) (started : os.Started) (H : Type) (enc : TypeId × Value → H) :
    ReturnsInHanded {} Try.checked os 13 .any (Rows.recordRowsSpec.pre6 enc Try.prog Try.f13 Rows.recordRowsRow.domain false) (Rows.recordRowsSpec.post enc Try.prog Try.f13 false true false false) := by
  refine returnsInHanded_of_change (C := Try.checked) own_ started (by kernel_rfl) Try.func13
    (ChangeSpec.witness6 (enc := enc) (C := Try.checked) false ⟨#[], #[.slice none 0 0, .int .i64 0], []⟩ 8 (by kernel_rfl) (by kernel_rfl) (by kernel_rfl) (by kernel_rfl)) ?_
  intro W base args ds gs before hval0 hW hcnd _
  have hval : ∀ (j : Nat) t v, Try.f13.params[j]? = some t → args[j]? = some v → Value.okWide Try.prog W .any base t v := hval0
  have hW' := hW
  obtain ⟨p, q, hA0, hV, rfl, hfz, hnd⟩ := hW
  have hA : DataW.TrodAll enc Try.prog W 0 (fun _ => true) true Try.f13.params.toList args.toList ds p := hA0
  rw [Try.params13] at hA hval
  obtain ⟨v0, vs0, d0, ds0, p0, q0, hargs, rfl, rfl, hx0, r0⟩ := trodAll_cons hA
  obtain ⟨v1, vs1, d1, ds1, p1, q1, rfl, rfl, rfl, hx1, r1⟩ := trodAll_cons r0
  obtain ⟨rfl, rfl, rfl⟩ := trodAll_nil r1
  obtain rfl : args = #[v0, v1] := by cases args; simp_all
  obtain ⟨rfl, rfl⟩ := trodVars_none hV
  obtain ⟨Al, cl, l, rfl, hlr, hlc, hlm, hlw⟩ := op_recs (hval 0 34 v0 rfl rfl) (tr_of hx0)
  obtain ⟨window, rfl, hwindow0, hwindow1⟩ := op_int (hval 1 3 v1 rfl rfl) (tr_of hx1)
  refine (walk W.heap.size Al cl l window W (Nat.le_refl _) hlr (by omega) hlw).mono fun e W' ⟨he, hg⟩ => ?_
  subst he
  exact ⟨_, rfl, law_post hW' rfl rfl (by kernel_rfl) rfl rfl rfl hg⟩

theorem over : Rows.recordRowsRow.holds Try.pinned (OpenSpec.ofChange Rows.recordRowsSpec) :=
  OpenClaim.holds_of_wide 13 Try.f13 rfl rfl rfl rfl rfl rfl rfl ⟨rfl, rfl, rfl, rfl, rfl⟩ rfl rfl rfl rfl rfl (by kernel_rfl) Try.func13 (by kernel_rfl)
    (of_decide_eq_true (by kernel_rfl)) (by unfold Func.isWrapper; first | (rw [if_pos (by decide +kernel)]; kernel_rfl) | (rw [if_neg (by decide +kernel)]; exact ⟨rfl, rfl⟩))
    (fun os started H enc _ => lifted os started H enc)

theorem proved : Rows.RecordRowsSaid := over

end Go.Proofs.Ytnpmojfjoemelaa.recordRows
