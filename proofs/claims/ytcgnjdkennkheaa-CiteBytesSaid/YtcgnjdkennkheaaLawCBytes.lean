/-
  scriniumlaw19.CiteBytes: no condition.
-/
import Derived.Test.YtcgnjdkennkheaaCiteM
import Derived.Test.YtcgnjdkennkheaaOpCite

import Derived.Test.YtcgnjdkennkheaaLaw
set_option linter.unusedVariables false
set_option maxRecDepth 100000
set_option linter.unusedSimpArgs false
namespace Go.Proofs.Ytcgnjdkennkheaa.citeBytes
open Go.ChangeShapes Go.WideShapes Go.ChangeAt Go.RowKit
open Seal (Fz Hd St Ct)
attribute [local go_sem] bs_size bs_toList2 bs_append bs_extract_end bs_extract_begin bs_get wrap64_b grow_cell grow_frozen

/-! ### The walk -/
theorem _root_.Go.Proofs.Ytcgnjdkennkheaa.SlS.rowB {w : World} {B g : Nat} {v : Value} {l : List (List UInt8)} (h : SlS w B v l) (hg : B ≤ g) (cs : Array Value) : SlS (w.setRow g cs) B v l :=
  h.below (C := B) ⟨rfl, rfl, rfl, by simp [World.setRow], fun i hi => heap_setRow i (by omega)⟩ (Nat.le_refl _)
theorem ct_length (x : Ct) (hm : x.may) (ho : x.ok) : x.bytes.length ≤ 1099511627776 := by
  obtain ⟨-, -, -, -, m5, m6⟩ := hm
  obtain ⟨r1, r2, r3, r4, r5⟩ := ho
  have l1 := Seal.text_le x.fz.bytes
  have l2 := Oct.list_length_le 32 x.path (fun s hs => Nat.le_of_eq (r4 s hs))
  have l3 := Seal.put_le (Seal.u64 x.place)
  have l4 := Oct.list_length_le 32 x.super (fun s hs => Nat.le_of_eq (r5 s hs))
  have l5 := Seal.text_le x.hd.bytes
  have l6 := Seal.Fz.bytes_length x.fz r1
  have l7 := Seal.Ct.hd_length x.hd r2 r3
  unfold Seal.Ct.bytes
  simp only [List.length_append]
  omega
set_option maxHeartbeats 16000000 in
theorem walk (c d : Ct) (cP cQ dP dQ : Value) (hco : c.ok) (hdo : d.ok) (w : World) (hcP : SlS w w.heap.size cP c.path) (hcQ : SlS w w.heap.size cQ c.super) (hdP : SlS w w.heap.size dP d.path) (hdQ : SlS w w.heap.size dQ d.super) :
    Calls Try.prog 3 #[citeV c.fz cP c.place cQ c.hd, citeV d.fz dP d.place dQ d.hd] w fun e w' => e = .returned (.bool true) ∧ Ext w w' := by
  have hA : CiteAt ((w.alloc (.cells (citeC c.fz cP c.place cQ c.hd).toArray 30)).alloc (.cells (citeC d.fz dP d.place dQ d.hd).toArray 30)) w.heap.size c.fz cP c.place cQ c.hd := CiteAt.ext (Blk.new w 30 _) ((Ext.refl _).alloc _)
  have hB : CiteAt ((w.alloc (.cells (citeC c.fz cP c.place cQ c.hd).toArray 30)).alloc (.cells (citeC d.fz dP d.place dQ d.hd).toArray 30)) (w.heap.size + 1) d.fz dP d.place dQ d.hd := by
    have := Blk.new (w.alloc (.cells (citeC c.fz cP c.place cQ c.hd).toArray 30)) 30 (citeC d.fz dP d.place dQ d.hd).toArray
    rw [alloc_size] at this
    exact this
  have hE : Ext w ((w.alloc (.cells (citeC c.fz cP c.place cQ c.hd).toArray 30)).alloc (.cells (citeC d.fz dP d.place dQ d.hd).toArray 30)) := ((Ext.refl w).alloc _).alloc _
  replace hcP := hcP.below hE (Nat.le_refl _)
  replace hcQ := hcQ.below hE (Nat.le_refl _)
  replace hdP := hdP.below hE (Nat.le_refl _)
  replace hdQ := hdQ.below hE (Nat.le_refl _)
  have hxo := cut70_ok c hco
  have hyo := cut70_ok d hdo
  have hsc := fun w T hT h1 h2 => small19_calls c hco cP cQ w T hT h1 h2
  have hsd := fun w T hT h1 h2 => small19_calls d hdo dP dQ w T hT h1 h2
  obtain ⟨c1, c2, c3, -, -⟩ := hco
  obtain ⟨d1, d2, d3, -, -⟩ := hdo
  generalize cut70 c = cx at *
  generalize cut70 d = cy at *
  have hbx := fun w P Q h1 h2 => citeBytes_calls cx hxo P Q w h1 h2
  have hfx := fun w P Q h1 h2 => cfBytes_calls cx hxo P Q w h1 h2
  have hsxy := fun w P Q R S h1 h2 h3 h4 => ctSame_calls cx cy hxo hyo P Q R S w h1 h2 h3 h4
  have hfxy := fun w P Q R S h1 h2 h3 h4 => cfSame_calls cx cy hxo hyo P Q R S w h1 h2 h3 h4
  have hsxx := fun w P Q R S h1 h2 h3 h4 => ctSame_calls cx cx hxo hxo P Q R S w h1 h2 h3 h4
  have hfxx := fun w P Q R S h1 h2 h3 h4 => cfSame_calls cx cx hxo hxo P Q R S w h1 h2 h3 h4
  rw [show decide (cx = cx) = true by simp] at hsxx hfxx
  generalize decide (cx = cy) = dd at *
  have hrd : cx.may → ∀ w, Calls Try.prog 11 #[.string (bs cx.outB)] w fun e w' => ∃ P Q, e = .returned (.tuple #[citeV cx.fz P cx.place Q cx.hd, .int .i64 0]) ∧ SlS w' w'.heap.size P cx.path ∧ SlS w' w'.heap.size Q cx.super ∧ Ext w w' := fun hm w => by
    have hr := Seal.Ct.read_bytes cx hm hxo
    have e1 : Seal.Ct.readC cx.bytes = cx := by unfold Seal.Ct.readC; rw [hr]; rfl
    have e2 : Seal.Ct.readE cx.bytes = 0 := by unfold Seal.Ct.readE; rw [hr]; rfl
    have := citeRead_calls cx.bytes (ct_length cx hm hxo) w
    rw [e1, e2] at this
    rw [cx.outB_ok hm]
    exact this
  have he0 : cx.may → cx.outE = 0 := fun hm => cx.outE_ok hm
  have he1 : ¬ cx.may → cx.outE = 1 := fun hm => cx.outE_no hm
  generalize cx.outB = ob at *
  generalize cx.outE = oe at *
  have b1 : (ob != ob) = false := by simp
  have b2 : (ob == ob) = true := by simp
  have b3 : (oe != oe) = false := by simp
  have b4 : (oe == oe) = true := by simp
  have b5 : (dd != dd) = false := by simp
  have b6 : (dd == dd) = true := by simp
  obtain ⟨cx1, cx2, cx3, -, -⟩ := hxo
  obtain ⟨cy1, cy2, cy3, -, -⟩ := hyo
  have H1 := Lib.hid hsc; have H2 := Lib.hid hsd; have H3 := Lib.hid hbx; have H4 := Lib.hid hfx; have H5 := Lib.hid hsxy; have H6 := Lib.hid hfxy; have H7 := Lib.hid hsxx; have H8 := Lib.hid hfxx; have H9 := Lib.hid hrd; have H10 := Lib.hid he0; have H11 := Lib.hid he1
  clear hsc hsd hbx hfx hsxy hfxy hsxx hfxx hrd he0 he1
  unfold citeV
  go_enter Try.func3, Try.ntmps3
  go_wp2_with fail
  change Calls _ _ _ ((w.alloc (.cells (citeC c.fz cP c.place cQ c.hd).toArray 30)).alloc (.cells (citeC d.fz dP d.place dQ d.hd).toArray 30)) _
  generalize ((w.alloc (.cells (citeC c.fz cP c.place cQ c.hd).toArray 30)).alloc (.cells (citeC d.fz dP d.place dQ d.hd).toArray 30)) = w0 at *
  have hgl := hB.lt
  refine (awake19_calls _).mono ?_; rintro e v1 ⟨rfl, e2⟩
  replace hA := hA.ext e2
  replace hB := hB.ext e2
  replace hcP := hcP.below e2 hE.size
  replace hcQ := hcQ.below e2 hE.size
  replace hdP := hdP.below e2 hE.size
  replace hdQ := hdQ.below e2 hE.size
  have sz2 := e2.size
  replace hE := hE.trans e2
  clear e2
  go_wp2_with (refine stop_load 30 (.tmp 2) rfl ?_)
  refine ⟨?_⟩
  refine wpList_load_row rfl 30 (.tmp 2) rfl w.heap.size (by rfl) 30 _ (0, 0) _ hA Try.underlying30 rfl (size_ct c1 c2 c3) ?_
  simp only [Act.put, List.setIfInBounds_toArray, List.set_cons_zero, List.set_cons_succ]
  go_wp2_with fail
  change Calls _ _ #[citeV c.fz cP c.place cQ c.hd] _ _
  refine (H1.out _ _ hE.size hcP hcQ).mono ?_; rintro e v3 ⟨P, Q, rfl, hP, hQ, e4⟩
  replace hA := hA.ext e4
  replace hB := hB.ext e4
  replace hcP := hcP.below e4 hE.size
  replace hcQ := hcQ.below e4 hE.size
  replace hdP := hdP.below e4 hE.size
  replace hdQ := hdQ.below e4 hE.size
  have sz4 := e4.size
  replace hE := hE.trans e4
  clear e4
  go_wp2_with (refine stop_store 30 (.tmp 2) (.tmp 15) rfl ?_)
  refine ⟨?_⟩
  refine wpList_store_row rfl 30 (.tmp 2) (.tmp 15) rfl w.heap.size (citeC cx.fz P cx.place Q cx.hd).toArray (by rfl) (by rfl) 30 _ hA (size_ct cx1 cx2 cx3) (by simp only [List.size_toArray]; rw [citeC_length cx1 cx2 cx3, citeC_length c1 c2 c3]) (all_oneCell_toArray (citeC_one hP.oneCell hQ.oneCell)) ?_
  simp only [Act.put, List.setIfInBounds_toArray, List.set_cons_zero, List.set_cons_succ]
  have hUc : Upd w.heap.size v3 (v3.setRow w.heap.size (citeC cx.fz P cx.place Q cx.hd).toArray) := updRow _ _ _
  have hA' : CiteAt (v3.setRow w.heap.size (citeC cx.fz P cx.place Q cx.hd).toArray) w.heap.size cx.fz P cx.place Q cx.hd := Blk.row hA _
  replace hA := hA'
  clear hA'
  replace hB := hB.updO hUc (by omega)
  replace hcP := hcP.rowB (show w.heap.size ≤ w.heap.size by omega) (citeC cx.fz P cx.place Q cx.hd).toArray
  replace hcQ := hcQ.rowB (show w.heap.size ≤ w.heap.size by omega) (citeC cx.fz P cx.place Q cx.hd).toArray
  replace hdP := hdP.rowB (show w.heap.size ≤ w.heap.size by omega) (citeC cx.fz P cx.place Q cx.hd).toArray
  replace hdQ := hdQ.rowB (show w.heap.size ≤ w.heap.size by omega) (citeC cx.fz P cx.place Q cx.hd).toArray
  replace hP := hP.rowB (show w.heap.size ≤ w.heap.size by omega) (citeC cx.fz P cx.place Q cx.hd).toArray
  replace hQ := hQ.rowB (show w.heap.size ≤ w.heap.size by omega) (citeC cx.fz P cx.place Q cx.hd).toArray
  have sz5 := hUc.size
  replace hE := Ext.upd hE hUc (show w.heap.size ≤ w.heap.size by omega)
  clear hUc
  generalize v3.setRow w.heap.size (citeC cx.fz P cx.place Q cx.hd).toArray = v5 at *
  go_wp2_with (refine stop_load 30 (.tmp 3) rfl ?_)
  refine ⟨?_⟩
  refine wpList_load_row rfl 30 (.tmp 3) rfl (w.heap.size + 1) (by rfl) 30 _ (0, 0) _ hB Try.underlying30 rfl (size_ct d1 d2 d3) ?_
  simp only [Act.put, List.setIfInBounds_toArray, List.set_cons_zero, List.set_cons_succ]
  go_wp2_with fail
  change Calls _ _ #[citeV d.fz dP d.place dQ d.hd] _ _
  refine (H2.out _ _ hE.size hdP hdQ).mono ?_; rintro e v6 ⟨R, S, rfl, hR, hS, e7⟩
  replace hA := hA.ext e7
  replace hB := hB.ext e7
  replace hcP := hcP.below e7 hE.size
  replace hcQ := hcQ.below e7 hE.size
  replace hdP := hdP.below e7 hE.size
  replace hdQ := hdQ.below e7 hE.size
  replace hP := hP.below e7 hE.size
  replace hQ := hQ.below e7 hE.size
  have sz7 := e7.size
  replace hE := hE.trans e7
  clear e7
  go_wp2_with (refine stop_store 30 (.tmp 3) (.tmp 17) rfl ?_)
  refine ⟨?_⟩
  refine wpList_store_row rfl 30 (.tmp 3) (.tmp 17) rfl (w.heap.size + 1) (citeC cy.fz R cy.place S cy.hd).toArray (by rfl) (by rfl) 30 _ hB (size_ct cy1 cy2 cy3) (by simp only [List.size_toArray]; rw [citeC_length cy1 cy2 cy3, citeC_length d1 d2 d3]) (all_oneCell_toArray (citeC_one hR.oneCell hS.oneCell)) ?_
  simp only [Act.put, List.setIfInBounds_toArray, List.set_cons_zero, List.set_cons_succ]
  have hUc : Upd (w.heap.size + 1) v6 (v6.setRow (w.heap.size + 1) (citeC cy.fz R cy.place S cy.hd).toArray) := updRow _ _ _
  have hB' : CiteAt (v6.setRow (w.heap.size + 1) (citeC cy.fz R cy.place S cy.hd).toArray) (w.heap.size + 1) cy.fz R cy.place S cy.hd := Blk.row hB _
  replace hA := hA.updO hUc (by omega)
  replace hB := hB'
  clear hB'
  replace hcP := hcP.rowB (show w.heap.size ≤ (w.heap.size + 1) by omega) (citeC cy.fz R cy.place S cy.hd).toArray
  replace hcQ := hcQ.rowB (show w.heap.size ≤ (w.heap.size + 1) by omega) (citeC cy.fz R cy.place S cy.hd).toArray
  replace hdP := hdP.rowB (show w.heap.size ≤ (w.heap.size + 1) by omega) (citeC cy.fz R cy.place S cy.hd).toArray
  replace hdQ := hdQ.rowB (show w.heap.size ≤ (w.heap.size + 1) by omega) (citeC cy.fz R cy.place S cy.hd).toArray
  replace hP := hP.rowB (show w.heap.size ≤ (w.heap.size + 1) by omega) (citeC cy.fz R cy.place S cy.hd).toArray
  replace hQ := hQ.rowB (show w.heap.size ≤ (w.heap.size + 1) by omega) (citeC cy.fz R cy.place S cy.hd).toArray
  replace hR := hR.rowB (show w.heap.size ≤ (w.heap.size + 1) by omega) (citeC cy.fz R cy.place S cy.hd).toArray
  replace hS := hS.rowB (show w.heap.size ≤ (w.heap.size + 1) by omega) (citeC cy.fz R cy.place S cy.hd).toArray
  have sz8 := hUc.size
  replace hE := Ext.upd hE hUc (show w.heap.size ≤ (w.heap.size + 1) by omega)
  clear hUc
  generalize v6.setRow (w.heap.size + 1) (citeC cy.fz R cy.place S cy.hd).toArray = v8 at *
  clear hcP hcQ hdP hdQ
  go_wp2_with (refine stop_load 30 (.tmp 2) rfl ?_)
  refine ⟨?_⟩
  refine wpList_load_row rfl 30 (.tmp 2) rfl w.heap.size (by rfl) 30 _ (0, 0) _ hA Try.underlying30 rfl (size_ct cx1 cx2 cx3) ?_
  simp only [Act.put, List.setIfInBounds_toArray, List.set_cons_zero, List.set_cons_succ]
  go_wp2_with fail
  change Calls _ _ #[citeV cx.fz P cx.place Q cx.hd] _ _
  refine (H3.out _ P Q (hP.more hE.size) (hQ.more hE.size)).mono ?_; rintro e v9 ⟨rfl, e10⟩
  replace hA := hA.ext e10
  replace hB := hB.ext e10
  replace hP := hP.below e10 hE.size
  replace hQ := hQ.below e10 hE.size
  replace hR := hR.below e10 hE.size
  replace hS := hS.below e10 hE.size
  have sz10 := e10.size
  replace hE := hE.trans e10
  clear e10
  go_wp2_with (refine stop_load 30 (.tmp 2) rfl ?_)
  refine ⟨?_⟩
  refine wpList_load_row rfl 30 (.tmp 2) rfl w.heap.size (by rfl) 30 _ (0, 0) _ hA Try.underlying30 rfl (size_ct cx1 cx2 cx3) ?_
  simp only [Act.put, List.setIfInBounds_toArray, List.set_cons_zero, List.set_cons_succ]
  go_wp2_with fail
  change Calls _ _ #[citeV cx.fz P cx.place Q cx.hd] _ _
  refine (H4.out _ P Q (hP.more hE.size) (hQ.more hE.size)).mono ?_; rintro e v11 ⟨rfl, e12⟩
  replace hA := hA.ext e12
  replace hB := hB.ext e12
  replace hP := hP.below e12 hE.size
  replace hQ := hQ.below e12 hE.size
  replace hR := hR.below e12 hE.size
  replace hS := hS.below e12 hE.size
  have sz12 := e12.size
  replace hE := hE.trans e12
  clear e12
  go_wp2_with fail
  have hPx : ∀ z : More v11, SlS (grow v11 z) (grow v11 z).heap.size P cx.path := fun z => (hP.below (grow_ext z) hE.size).more (Nat.le_trans hE.size (grow_ext z).size)
  have hQx : ∀ z : More v11, SlS (grow v11 z) (grow v11 z).heap.size Q cx.super := fun z => (hQ.below (grow_ext z) hE.size).more (Nat.le_trans hE.size (grow_ext z).size)
  have hRx : ∀ z : More v11, SlS (grow v11 z) (grow v11 z).heap.size R cy.path := fun z => (hR.below (grow_ext z) hE.size).more (Nat.le_trans hE.size (grow_ext z).size)
  have hSx : ∀ z : More v11, SlS (grow v11 z) (grow v11 z).heap.size S cy.super := fun z => (hS.below (grow_ext z) hE.size).more (Nat.le_trans hE.size (grow_ext z).size)
  refine region_mix0 (by kernel_rfl) (by kernel_rfl) (fun x => ?_)
  iterate 9 (first | (refine mix_quiet (by rfl) (by rfl) (fun K hK => ?_); go_big_quiet_op; refine hK _ ?_; clear hK K) | (refine mix_skip (by rfl) ?_; simp only [Act.put, List.setIfInBounds_toArray, List.set_cons_zero, List.set_cons_succ]))
  refine mix_row (by rfl) (by rfl) 30 (.tmp 2) rfl w.heap.size (by rfl) _ _ _ hA Try.underlying30 rfl (size_ct cx1 cx2 cx3) ?_
  simp only [Act.put, List.setIfInBounds_toArray, List.set_cons_zero, List.set_cons_succ]
  refine mix_row (by rfl) (by rfl) 30 (.tmp 3) rfl (w.heap.size + 1) (by rfl) _ _ _ hB Try.underlying30 rfl (size_ct cy1 cy2 cy3) ?_
  simp only [Act.put, List.setIfInBounds_toArray, List.set_cons_zero, List.set_cons_succ]
  (refine mix_loud (by rfl) (by rfl) (fun K E hK => ?_); go_big_op)
  change Calls _ _ #[citeV cx.fz P cx.place Q cx.hd, citeV cy.fz R cy.place S cy.hd] _ _
  refine (H5.out _ P Q R S (hPx _) (hQx _) (hRx _) (hSx _)).mono ?_; rintro e w3 ⟨rfl, hd⟩
  obtain ⟨x13, rfl⟩ := more_ext x hd
  refine hK _ _ ⟨_, rfl⟩ ?_; clear hK K E hd
  refine mix_row (by rfl) (by rfl) 30 (.tmp 2) rfl w.heap.size (by rfl) _ _ _ hA Try.underlying30 rfl (size_ct cx1 cx2 cx3) ?_
  simp only [Act.put, List.setIfInBounds_toArray, List.set_cons_zero, List.set_cons_succ]
  refine mix_row (by rfl) (by rfl) 30 (.tmp 3) rfl (w.heap.size + 1) (by rfl) _ _ _ hB Try.underlying30 rfl (size_ct cy1 cy2 cy3) ?_
  simp only [Act.put, List.setIfInBounds_toArray, List.set_cons_zero, List.set_cons_succ]
  (refine mix_loud (by rfl) (by rfl) (fun K E hK => ?_); go_big_op)
  change Calls _ _ #[citeV cx.fz P cx.place Q cx.hd, citeV cy.fz R cy.place S cy.hd] _ _
  refine (H6.out _ P Q R S (hPx _) (hQx _) (hRx _) (hSx _)).mono ?_; rintro e w3 ⟨rfl, hd⟩
  obtain ⟨x14, rfl⟩ := more_ext x13 hd
  refine hK _ _ ⟨_, rfl⟩ ?_; clear hK K E hd
  iterate 3 (first | (refine mix_quiet (by rfl) (by rfl) (fun K hK => ?_); go_big_quiet_op; refine hK _ ?_; clear hK K) | (refine mix_skip (by rfl) ?_; simp only [Act.put, List.setIfInBounds_toArray, List.set_cons_zero, List.set_cons_succ]))
  refine mix_row (by rfl) (by rfl) 30 (.tmp 2) rfl w.heap.size (by rfl) _ _ _ hA Try.underlying30 rfl (size_ct cx1 cx2 cx3) ?_
  simp only [Act.put, List.setIfInBounds_toArray, List.set_cons_zero, List.set_cons_succ]
  refine mix_row (by rfl) (by rfl) 30 (.tmp 2) rfl w.heap.size (by rfl) _ _ _ hA Try.underlying30 rfl (size_ct cx1 cx2 cx3) ?_
  simp only [Act.put, List.setIfInBounds_toArray, List.set_cons_zero, List.set_cons_succ]
  (refine mix_loud (by rfl) (by rfl) (fun K E hK => ?_); go_big_op)
  change Calls _ _ #[citeV cx.fz P cx.place Q cx.hd, citeV cx.fz P cx.place Q cx.hd] _ _
  refine (H7.out _ P Q P Q (hPx _) (hQx _) (hPx _) (hQx _)).mono ?_; rintro e w3 ⟨rfl, hd⟩
  obtain ⟨x15, rfl⟩ := more_ext x14 hd
  refine hK _ _ ⟨_, rfl⟩ ?_; clear hK K E hd
  repeat (first | (refine mix_quiet (by rfl) (by rfl) (fun K hK => ?_); go_big_quiet_op; refine hK _ ?_; clear hK K) | (refine mix_skip (by rfl) ?_; simp only [Act.put, List.setIfInBounds_toArray, List.set_cons_zero, List.set_cons_succ]))
  clear hPx hQx hRx hSx
  refine mix_nil ?_
  have e17 := grow_ext x15
  generalize grow v11 x15 = v16 at *
  replace hA := hA.ext e17
  replace hB := hB.ext e17
  replace hP := hP.below e17 hE.size
  replace hQ := hQ.below e17 hE.size
  replace hR := hR.below e17 hE.size
  replace hS := hS.below e17 hE.size
  have sz17 := e17.size
  replace hE := hE.trans e17
  clear e17
  by_cases hm : cx.may
  case neg =>
    have ho := H11.out hm
    subst ho
    go_wp2_with fail
    go_ret
    exact ⟨rfl, hE⟩
  have ho := H10.out hm
  have hr := H9.out hm
  clear hm
  subst ho
  have H12 := Lib.hid hr
  clear hr
  go_wp2_with fail
  refine (H12.out _).mono ?_; rintro e v18 ⟨U, V, rfl, hU, hV, e19⟩
  replace hA := hA.ext e19
  replace hB := hB.ext e19
  replace hP := hP.below e19 hE.size
  replace hQ := hQ.below e19 hE.size
  replace hR := hR.below e19 hE.size
  replace hS := hS.below e19 hE.size
  have sz19 := e19.size
  replace hE := hE.trans e19
  clear e19
  go_wp2_with (refine stop_store 30 (.tmp 10) (.tmp 57) rfl ?_)
  refine ⟨?_⟩
  change wpList _ _ _ _ _ (v18.alloc (.cells (citeC Seal.zF (.slice none 0 0) 0 (.slice none 0 0) Seal.zH).toArray 30))
  have hC0 : Blk (v18.alloc (.cells (citeC Seal.zF (.slice none 0 0) 0 (.slice none 0 0) Seal.zH).toArray 30)) v18.heap.size 30 (citeC Seal.zF (.slice none 0 0) 0 (.slice none 0 0) Seal.zH).toArray := Blk.new v18 _ _
  have e22a := (Ext.refl v18).alloc (.cells (citeC Seal.zF (.slice none 0 0) 0 (.slice none 0 0) Seal.zH).toArray 30)
  obtain ⟨g21, g21e⟩ : ∃ g21, g21 = v18.heap.size := ⟨_, rfl⟩
  rw [← g21e] at hC0
  try rw [← g21e]
  have g21b : v18.heap.size ≤ g21 := by omega
  generalize v18.alloc (.cells (citeC Seal.zF (.slice none 0 0) 0 (.slice none 0 0) Seal.zH).toArray 30) = v20' at *
  refine wpList_store_row rfl 30 (.tmp 10) (.tmp 57) rfl g21 (citeC cx.fz U cx.place V cx.hd).toArray (by rfl) (by rfl) 30 _ hC0 (size_ct cx1 cx2 cx3) (by simp only [List.size_toArray]; rw [citeC_length cx1 cx2 cx3]; rfl) (all_oneCell_toArray (citeC_one hU.oneCell hV.oneCell)) ?_
  simp only [Act.put, List.setIfInBounds_toArray, List.set_cons_zero, List.set_cons_succ]
  have hC : CiteAt (v20'.setRow g21 (citeC cx.fz U cx.place V cx.hd).toArray) g21 cx.fz U cx.place V cx.hd := Blk.row hC0 _
  have e22 : Ext v18 (v20'.setRow g21 (citeC cx.fz U cx.place V cx.hd).toArray) := e22a.row g21b _
  clear hC0 e22a g21e
  generalize v20'.setRow g21 (citeC cx.fz U cx.place V cx.hd).toArray = v20 at *
  clear v20' 
  replace hA := hA.ext e22
  replace hB := hB.ext e22
  replace hP := hP.below e22 hE.size
  replace hQ := hQ.below e22 hE.size
  replace hR := hR.below e22 hE.size
  replace hS := hS.below e22 hE.size
  replace hU := hU.ext e22
  replace hV := hV.ext e22
  have sz22 := e22.size
  replace hE := hE.trans e22
  clear e22
  go_wp2_with (refine stop_load 30 (.tmp 10) rfl ?_)
  refine ⟨?_⟩
  refine wpList_load_row rfl 30 (.tmp 10) rfl g21 (by rfl) 30 _ (0, 0) _ hC Try.underlying30 rfl (size_ct cx1 cx2 cx3) ?_
  simp only [Act.put, List.setIfInBounds_toArray, List.set_cons_zero, List.set_cons_succ]
  go_wp2_with (refine stop_load 30 (.tmp 2) rfl ?_)
  refine ⟨?_⟩
  refine wpList_load_row rfl 30 (.tmp 2) rfl w.heap.size (by rfl) 30 _ (0, 0) _ hA Try.underlying30 rfl (size_ct cx1 cx2 cx3) ?_
  simp only [Act.put, List.setIfInBounds_toArray, List.set_cons_zero, List.set_cons_succ]
  go_wp2_with fail
  change Calls _ _ #[citeV cx.fz U cx.place V cx.hd, citeV cx.fz P cx.place Q cx.hd] _ _
  refine (H8.out _ U V P Q hU hV (hP.more hE.size) (hQ.more hE.size)).mono ?_; rintro e v23 ⟨rfl, e24⟩
  replace hA := hA.ext e24
  replace hB := hB.ext e24
  replace hP := hP.below e24 hE.size
  replace hQ := hQ.below e24 hE.size
  replace hR := hR.below e24 hE.size
  replace hS := hS.below e24 hE.size
  replace hU := hU.ext e24
  replace hV := hV.ext e24
  replace hC := hC.ext e24
  have sz24 := e24.size
  replace hE := hE.trans e24
  clear e24
  go_wp2_with fail
  go_ret
  exact ⟨rfl, hE⟩

set_option maxRecDepth 100000 in
theorem lifted (os : Os) (started : os.Started) (H : Type) (enc : TypeId × Value → H) :
    ReturnsInHanded {} Try.checked os 3 .any (Rows.citeBytesSpec.pre6 enc Try.prog Try.f3 Rows.citeBytesRow.domain false) (Rows.citeBytesSpec.post enc Try.prog Try.f3 false true false false) := by
  refine returnsInHanded_of_change (C := Try.checked) own_ started (by kernel_rfl) Try.func3
    (ChangeSpec.witness6 (enc := enc) (C := Try.checked) false ⟨#[], #[.agg (Array.mk (α := Value) ((Value.int IntKind.i64 0 :: Value.int IntKind.i64 0 :: List.replicate 32 (Value.int IntKind.u8 0)) ++ (Value.slice none 0 0 :: Value.int IntKind.i64 0 :: Value.slice none 0 0 :: (Value.int IntKind.i64 0 :: (List.replicate 32 (Value.int IntKind.u8 0) ++ (Value.int IntKind.i64 0 :: List.replicate 32 (Value.int IntKind.u8 0))))))), .agg (Array.mk (α := Value) ((Value.int IntKind.i64 0 :: Value.int IntKind.i64 0 :: List.replicate 32 (Value.int IntKind.u8 0)) ++ (Value.slice none 0 0 :: Value.int IntKind.i64 0 :: Value.slice none 0 0 :: (Value.int IntKind.i64 0 :: (List.replicate 32 (Value.int IntKind.u8 0) ++ (Value.int IntKind.i64 0 :: List.replicate 32 (Value.int IntKind.u8 0)))))))], []⟩ 8 (by kernel_rfl) (by kernel_rfl) (by kernel_rfl) (by kernel_rfl)) ?_
  intro W base args ds gs before hval0 hW hcnd _
  have hval : ∀ (j : Nat) t v, Try.f3.params[j]? = some t → args[j]? = some v → Value.okWide Try.prog W .any base t v := hval0
  have hW' := hW
  obtain ⟨p, q, hA0, hV, rfl, hfz, hnd⟩ := hW
  have hA : DataW.TrodAll enc Try.prog W 0 (fun _ => true) true Try.f3.params.toList args.toList ds p := hA0
  rw [Try.params3] at hA hval
  obtain ⟨v0, vs0, d0, ds0, p0, q0, hargs, rfl, rfl, hx0, r0⟩ := trodAll_cons hA
  obtain ⟨v1, vs1, d1, ds1, p1, q1, rfl, rfl, rfl, hx1, r1⟩ := trodAll_cons r0
  obtain ⟨rfl, rfl, rfl⟩ := trodAll_nil r1
  obtain rfl : args = #[v0, v1] := by cases args; simp_all
  obtain ⟨rfl, rfl⟩ := trodVars_none hV
  obtain ⟨c, cP, cQ, rfl, hco, hcP, hcQ⟩ := op_ct (hval 0 30 v0 rfl rfl) (tr_of hx0)
  obtain ⟨d, dP, dQ, rfl, hdo, hdP, hdQ⟩ := op_ct (hval 1 30 v1 rfl rfl) (tr_of hx1)
  refine (walk c d cP cQ dP dQ hco hdo W hcP hcQ hdP hdQ).mono fun e W' ⟨he, hg⟩ => ?_
  subst he
  exact ⟨_, rfl, law_post hW' rfl rfl (by kernel_rfl) rfl rfl rfl hg⟩

theorem over : Rows.citeBytesRow.holds Try.pinned (OpenSpec.ofChange Rows.citeBytesSpec) :=
  OpenClaim.holds_of_wide 3 Try.f3 rfl rfl rfl rfl rfl rfl rfl ⟨rfl, rfl, rfl, rfl, rfl⟩ rfl rfl rfl rfl rfl (by kernel_rfl) Try.func3 (by kernel_rfl)
    (of_decide_eq_true (by kernel_rfl)) (by unfold Func.isWrapper; first | (rw [if_pos (by decide +kernel)]; kernel_rfl) | (rw [if_neg (by decide +kernel)]; exact ⟨rfl, rfl⟩))
    (fun os started H enc _ => lifted os started H enc)

theorem proved : Rows.CiteBytesSaid := over

end Go.Proofs.Ytcgnjdkennkheaa.citeBytes
