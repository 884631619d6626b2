/-
  scriniumlaw19.CiteTells: no condition.
-/
import Derived.Test.YtcgnjdkennkheaaGreatDoorWorldM
import Derived.Test.YtcgnjdkennkheaaGreatDoorLaw
import Derived.Deep.DeepCutAuto
import Derived.Deep.CutBlock
set_option linter.unusedVariables false
set_option maxRecDepth 100000
set_option linter.unusedSimpArgs false
namespace Go.Proofs.YtcgnjdkennkheaaGreatDoor.citeTells
open Go.ChangeShapes Go.WideShapes Go.ChangeAt Go.RowKit
open Seal (Fz Hd St Ct)
attribute [local go_sem] bs_size bs_toList2 bs_append bs_extract_end bs_extract_begin bs_get wrap64_b grow_cell grow_frozen

/-! ### The walk -/
theorem sls_upd {w w' : World} {B g : Nat} {v : Value} {l : List (List UInt8)} (h : SlS w B v l) (hU : Upd g w w') (hB : B ≤ w.heap.size) (hg : B ≤ g) : SlS w' w'.heap.size v l := by
  have hb := Below.upd (Below.refl B w) hU hB hg
  have h2 := hU.size
  exact (h.below hb (Nat.le_refl _)).more (by omega)
theorem own_low_sl {w : World} {B C : Nat} {v : Value} {l : List (List UInt8)} (h : OwnS w B v l) (hl : l ≠ [] → ∀ k, v.ownBlock = some k → k < C) : SlS w C v l := by
  obtain ⟨A, cap, rfl, h2, h3, h4, h5⟩ := id h
  refine ⟨A, cap, rfl, h2, h3, h4, ?_⟩
  by_cases he : l = []
  · subst he
    exact Rd.nil
  · obtain ⟨A', cap', e', _, _, _, hr⟩ := h.sl
    injection e' with e1 _ e3
    subst e1 e3
    intro hx
    obtain ⟨b, off, rfl, hb, hc⟩ := hr hx
    exact ⟨b, off, rfl, hl he b rfl, hc⟩
theorem wrap_top (n : Int) : wrap64 n ≤ 9223372036854775807 := by unfold wrap64; omega
theorem x_bs : (⟨#[120]⟩ : ByteArray) = bs [120] := rfl
theorem k_bs : (⟨#[107]⟩ : ByteArray) = bs [107] := rfl
attribute [local go_sem] x_bs k_bs
theorem cell_ext {w w' : World} (e : Ext w w') {p : Addr} {v : Value} (h : w.cell? p = some v) : w'.cell? p = some v := by
  have hb := World.block_lt_of_cell? w p h
  exact (World.cell?_of_block (e.block p.block hb)).trans h
set_option maxHeartbeats 32000000 in
theorem walk (wd : Wd) (A : Option Addr) (ca : Nat) (q s : Value) (t : Fz) (htr : t.root.length = 32) (a : Ct) (aP aQ : Value) (y : Rc) (hao : a.ok) (hac : a.fz.cnt ≤ 9223372036854775807 ∧ a.hd.size ≤ 9223372036854775807) (hy2 : y.pay.length ≤ 9223372036854775807) (w : World) (KW : Keys w) (hd : WdV w wd A ca q s) (haP : SlS w w.heap.size aP a.path) (haQ : SlS w w.heap.size aQ a.super) :
    Calls Tryz.prog 5 #[.agg #[.slice A wd.recs.length ca, q, s, .int .i64 wd.which, .string (bs wd.key)], .agg t.cells.toArray, .agg (citeC a.fz aP a.place aQ a.hd ++ y.cells).toArray] w fun e w' => e = .returned (.bool true) ∧ Ext w w' := by
  obtain ⟨hd1, hd2, hd3, hd4, hd5, hd6, hd7, hd8, hd9⟩ := hd
  have hW : Blk (((w.alloc (.cells #[.slice A wd.recs.length ca, q, s, .int .i64 wd.which, .string (bs wd.key)] 25)).alloc (.cells t.cells.toArray 53)).alloc (.cells (citeC a.fz aP a.place aQ a.hd ++ y.cells).toArray 55)) w.heap.size 25 #[.slice A wd.recs.length ca, q, s, .int .i64 wd.which, .string (bs wd.key)] := Blk.alloc (Blk.alloc (Blk.new w _ _) _) _
  have hT : Blk (((w.alloc (.cells #[.slice A wd.recs.length ca, q, s, .int .i64 wd.which, .string (bs wd.key)] 25)).alloc (.cells t.cells.toArray 53)).alloc (.cells (citeC a.fz aP a.place aQ a.hd ++ y.cells).toArray 55)) (w.heap.size + 1) 53 t.cells.toArray := by
    have := Blk.new (w.alloc (.cells #[.slice A wd.recs.length ca, q, s, .int .i64 wd.which, .string (bs wd.key)] 25)) 53 t.cells.toArray
    rw [alloc_size] at this
    exact Blk.alloc this _
  have hRaw : RawAt (((w.alloc (.cells #[.slice A wd.recs.length ca, q, s, .int .i64 wd.which, .string (bs wd.key)] 25)).alloc (.cells t.cells.toArray 53)).alloc (.cells (citeC a.fz aP a.place aQ a.hd ++ y.cells).toArray 55)) (w.heap.size + 1 + 1) a aP aQ y := by
    have := Blk.new ((w.alloc (.cells #[.slice A wd.recs.length ca, q, s, .int .i64 wd.which, .string (bs wd.key)] 25)).alloc (.cells t.cells.toArray 53)) 55 (citeC a.fz aP a.place aQ a.hd ++ y.cells).toArray
    rw [alloc_size, alloc_size] at this
    exact this
  have hE0 : Ext w (((w.alloc (.cells #[.slice A wd.recs.length ca, q, s, .int .i64 wd.which, .string (bs wd.key)] 25)).alloc (.cells t.cells.toArray 53)).alloc (.cells (citeC a.fz aP a.place aQ a.hd ++ y.cells).toArray 55)) := (((Ext.refl w).alloc _).alloc _).alloc _
  go_enter Tryz.func5, Tryz.ntmps5
  go_wp2_with fail
  change Calls _ _ _ (((w.alloc (.cells #[.slice A wd.recs.length ca, q, s, .int .i64 wd.which, .string (bs wd.key)] 25)).alloc (.cells t.cells.toArray 53)).alloc (.cells (citeC a.fz aP a.place aQ a.hd ++ y.cells).toArray 55)) _
  generalize (((w.alloc (.cells #[.slice A wd.recs.length ca, q, s, .int .i64 wd.which, .string (bs wd.key)] 25)).alloc (.cells t.cells.toArray 53)).alloc (.cells (citeC a.fz aP a.place aQ a.hd ++ y.cells).toArray 55)) = w0 at *
  replace KW := KW.ext hE0
  replace hd7 := hd7.below hE0 (Nat.le_refl _) |>.more hE0.size
  replace hd8 := hd8.ext hE0
  replace hd9 := hd9.ext hE0
  replace haP := haP.ext hE0
  replace haQ := haQ.ext hE0
  have hE := Ext.refl w0
  refine (awake19_calls _).mono ?_; rintro e w1 ⟨rfl, e1⟩
  replace hW := Blk.below hW e1 (Blk.lt hW)
  replace hE := hE.trans e1
  clear e1
  have k4 := Blk.cell hW 4
  have k4' : w1.cell? ⟨w.heap.size, 4, none⟩ = some (.string (bs wd.key)) := k4
  clear k4
  obtain ⟨kk, hkk⟩ : ∃ k, k = wd.key.take 40 := ⟨_, rfl⟩
  have hkl : kk.length ≤ 40 := by rw [hkk, List.length_take]; omega
  have HC := cited_any wd hd1 hd2 hd3 hd4 A ca q s hd5 hd6
  rw [← hkk] at HC
  have HCi := Lib.hid HC
  have Hkk := Lib.hid hkk
  clear hkk HC
  go_wp2_with fail
  refine (short19_calls wd.key 40 _ hd2 (by omega)).mono ?_; rw [← Hkk.out]; rintro e w' ⟨rfl, rfl⟩
  clear k4'
  go_wp2_with (refine stop_load 25 (.tmp 3) rfl ?_)
  refine ⟨?_⟩
  refine wpList_load_row rfl 25 (.tmp 3) rfl w.heap.size (by rfl) 25 _ (0, 0) _ hW Tryz.underlying25 rfl (by kernel_rfl) ?_
  simp only [Act.put, List.setIfInBounds_toArray, List.set_cons_zero, List.set_cons_succ]
  go_wp2_with fail
  refine (HCi.out _ (hd7.below hE (Nat.le_refl _) |>.more hE.size) (hd8.ext hE) (hd9.ext hE)).mono ?_; rintro e w4 ⟨c, P, Q, r, b, rfl, hfit, hpay, hP, hQ, hap, hbt, e4⟩
  clear HCi hd1 hd2 hd3 hd4 hd5 hd6 hd7 hd8 hd9 Hkk hW
  have hPl := own_blk_lt hP
  have hQl := own_blk_lt hQ
  have hsz1 := hE.size
  replace hE := hE.trans e4
  have hsz4 := hE.size
  clear e4
  obtain ⟨r1, r2, r3, -, -⟩ := id hfit.1
  go_wp2_with (refine stop_store 34 (.tmp 9) (.tmp 22) rfl ?_)
  refine ⟨?_⟩
  change wpList _ _ _ _ _ ((w4.alloc (.cells (citeC Seal.zF (.slice none 0 0) 0 (.slice none 0 0) Seal.zH).toArray 34)).alloc (.cells #[.int .i64 0, .int .i64 0, .int .i64 0, .string ⟨#[]⟩] 36))
  have hC0 : Blk ((w4.alloc (.cells (citeC Seal.zF (.slice none 0 0) 0 (.slice none 0 0) Seal.zH).toArray 34)).alloc (.cells #[.int .i64 0, .int .i64 0, .int .i64 0, .string ⟨#[]⟩] 36)) w4.heap.size 34 (citeC Seal.zF (.slice none 0 0) 0 (.slice none 0 0) Seal.zH).toArray := Blk.alloc (Blk.new w4 _ _) _
  have hR0 : RecAt ((w4.alloc (.cells (citeC Seal.zF (.slice none 0 0) 0 (.slice none 0 0) Seal.zH).toArray 34)).alloc (.cells #[.int .i64 0, .int .i64 0, .int .i64 0, .string ⟨#[]⟩] 36)) (w4.heap.size + 1) ⟨0, 0, 0, []⟩ := by
    have := Blk.new (w4.alloc (.cells (citeC Seal.zF (.slice none 0 0) 0 (.slice none 0 0) Seal.zH).toArray 34)) 36 #[.int .i64 0, .int .i64 0, .int .i64 0, .string ⟨#[]⟩]
    rw [alloc_size] at this
    exact this
  have eA : Ext w4 ((w4.alloc (.cells (citeC Seal.zF (.slice none 0 0) 0 (.slice none 0 0) Seal.zH).toArray 34)).alloc (.cells #[.int .i64 0, .int .i64 0, .int .i64 0, .string ⟨#[]⟩] 36)) := ((Ext.refl w4).alloc _).alloc _
  refine wpList_store_row rfl 34 (.tmp 9) (.tmp 22) rfl w4.heap.size (citeC c.fz P c.place Q c.hd).toArray (by rfl) (by rfl) 34 _ hC0 (size_ct r1 r2 r3) (by simp only [List.size_toArray] <;> (try (rw [citeC_length r1 r2 r3] <;> (try rfl)))) (all_oneCell_toArray (citeC_one hP.sl.oneCell hQ.sl.oneCell)) ?_
  simp only [Act.put, List.setIfInBounds_toArray, List.set_cons_zero, List.set_cons_succ]
  have hC1 : CiteAt ((((w4.alloc (.cells (citeC Seal.zF (.slice none 0 0) 0 (.slice none 0 0) Seal.zH).toArray 34)).alloc (.cells #[.int .i64 0, .int .i64 0, .int .i64 0, .string ⟨#[]⟩] 36))).setRow w4.heap.size (citeC c.fz P c.place Q c.hd).toArray) w4.heap.size c.fz P c.place Q c.hd := Blk.row hC0 _
  have hR1 : RecAt ((((w4.alloc (.cells (citeC Seal.zF (.slice none 0 0) 0 (.slice none 0 0) Seal.zH).toArray 34)).alloc (.cells #[.int .i64 0, .int .i64 0, .int .i64 0, .string ⟨#[]⟩] 36))).setRow w4.heap.size (citeC c.fz P c.place Q c.hd).toArray) (w4.heap.size + 1) ⟨0, 0, 0, []⟩ := Blk.rowFar hR0 (by omega) _
  refine wpList_store_row rfl 36 (.tmp 10) (.tmp 23) rfl (w4.heap.size + 1) #[.int .i64 r.win, .int .i64 r.idx, .int .i64 r.time, .string (bs r.pay)] (by rfl) (by rfl) 36 _ hR1 (size_rc r) (by rfl) (by simp [Value.oneCell']) ?_
  simp only [Act.put, List.setIfInBounds_toArray, List.set_cons_zero, List.set_cons_succ]
  have hC : CiteAt (((((w4.alloc (.cells (citeC Seal.zF (.slice none 0 0) 0 (.slice none 0 0) Seal.zH).toArray 34)).alloc (.cells #[.int .i64 0, .int .i64 0, .int .i64 0, .string ⟨#[]⟩] 36))).setRow w4.heap.size (citeC c.fz P c.place Q c.hd).toArray).setRow (w4.heap.size + 1) #[.int .i64 r.win, .int .i64 r.idx, .int .i64 r.time, .string (bs r.pay)]) w4.heap.size c.fz P c.place Q c.hd := Blk.rowFar hC1 (by omega) _
  have hR : RecAt (((((w4.alloc (.cells (citeC Seal.zF (.slice none 0 0) 0 (.slice none 0 0) Seal.zH).toArray 34)).alloc (.cells #[.int .i64 0, .int .i64 0, .int .i64 0, .string ⟨#[]⟩] 36))).setRow w4.heap.size (citeC c.fz P c.place Q c.hd).toArray).setRow (w4.heap.size + 1) #[.int .i64 r.win, .int .i64 r.idx, .int .i64 r.time, .string (bs r.pay)]) (w4.heap.size + 1) r := Blk.row hR1 _
  have e9 : Ext w4 (((((w4.alloc (.cells (citeC Seal.zF (.slice none 0 0) 0 (.slice none 0 0) Seal.zH).toArray 34)).alloc (.cells #[.int .i64 0, .int .i64 0, .int .i64 0, .string ⟨#[]⟩] 36))).setRow w4.heap.size (citeC c.fz P c.place Q c.hd).toArray).setRow (w4.heap.size + 1) #[.int .i64 r.win, .int .i64 r.idx, .int .i64 r.time, .string (bs r.pay)]) := (eA.row (Nat.le_refl _) _).row (Nat.le_succ _) _
  clear hC0 hR0 hC1 hR1 eA
  generalize ((((w4.alloc (.cells (citeC Seal.zF (.slice none 0 0) 0 (.slice none 0 0) Seal.zH).toArray 34)).alloc (.cells #[.int .i64 0, .int .i64 0, .int .i64 0, .string ⟨#[]⟩] 36))).setRow w4.heap.size (citeC c.fz P c.place Q c.hd).toArray).setRow (w4.heap.size + 1) #[.int .i64 r.win, .int .i64 r.idx, .int .i64 r.time, .string (bs r.pay)] = w5 at *
  obtain ⟨gC, hgC⟩ : ∃ g, g = w4.heap.size := ⟨_, rfl⟩
  rw [← hgC] at hC hR
  try rw [← hgC]
  rw [← hgC] at hPl hQl hsz4
  clear hgC
  replace hP := hP.ext e9
  replace hQ := hQ.ext e9
  replace hE := hE.trans e9
  clear e9
  obtain ⟨gT, hgT⟩ : ∃ g, g = w.heap.size + 1 := ⟨_, rfl⟩
  rw [← hgT] at hT hRaw
  try rw [← hgT]
  obtain ⟨gX, hgX⟩ : ∃ g, g = gT + 1 := ⟨_, rfl⟩
  rw [← hgX] at hRaw
  try rw [← hgX]
  clear hgT hgX
  have hTl := Blk.lt hT
  generalize Value.agg #[.slice A wd.recs.length ca, q, s, .int .i64 wd.which, .string (bs wd.key)] = v0
  generalize Value.agg (citeC a.fz aP a.place aQ a.hd ++ y.cells).toArray = v1
  generalize Value.tuple #[(citeV c.fz P c.place Q c.hd), r.v, .bool b] = v2
  generalize (citeV c.fz P c.place Q c.hd) = v3
  generalize r.v = v4
  go_upto_if 25 with fail
  go_cut [8] from 15 (fun s8 wx => ∃ k' : List UInt8, s8 = .string (bs k') ∧ k'.length ≤ 41 ∧ Ext w0 wx)
  case first =>
    cases b
    · go_wp2_with fail
      go_meet
      exact ⟨kk, rfl, by omega, hE⟩
    · skip
      obtain ⟨hrk, hr20⟩ := hbt rfl
      have HPl := Lib.hid hPl; have HQl := Lib.hid hQl; have Hap := Lib.hid hap; have HT := Lib.hid hT; have HRaw := Lib.hid hRaw; have HaP := Lib.hid haP; have HaQ := Lib.hid haQ
      clear hPl hQl hap hT hRaw haP haQ
      have hck : leafRightB kk 20 r.idx (leafB r.outB) c = true := by
        unfold rightCB at hrk
        rw [Bool.and_eq_true, hr20] at hrk
        exact hrk.2
      clear hr20
      have HR := fun P Q w KW h1 h2 => ctRight_calls kk (by omega) r (by omega) c hfit P Q w KW h1 h2
      rw [hrk] at HR
      have hll : (leafB r.outB).length = 32 := leafB_length _
      have HLf := fun w => refRecLeaf_calls r w (by omega)
      have HLR := fun P Q w KW h1 h2 => ctLeafRight_calls kk (by omega) 20 r.idx (leafB r.outB) hll c hfit P Q w KW h1 h2
      rw [hck] at HLR
      generalize leafB r.outB = lf at *
      have H3 := Lib.hid HR; have H4 := Lib.hid HLf; have H5 := Lib.hid HLR
      clear HR HLf HLR hrk hck hbt
      have hlC := hC.lt
      have hlR := Blk.lt hR
      have hsz := size_rc r
      have hsc := size_ct (f := c.fz) (p := P) (pl := c.place) (q := Q) (h := c.hd) r1 r2 r3
      obtain ⟨k0, k1, -, -⟩ := hR.cells
      have hPx : ∀ y : More w5, SlS (grow w5 y) (grow w5 y).heap.size P c.path := fun y => (hP.ext (grow_ext y)).sl
      have hQx : ∀ y : More w5, SlS (grow w5 y) (grow w5 y).heap.size Q c.super := fun y => (hQ.ext (grow_ext y)).sl
      have hKx : ∀ y : More w5, Keys (grow w5 y) := fun y => (KW.ext hE).ext (grow_ext y)
      go_upto_region 5 with fail
      refine region_mix0 (by kernel_rfl) (by kernel_rfl) (fun x0 => ?_)
      iterate 1 (first | (refine mix_quiet (by rfl) (by rfl) (fun K hK => ?_); go_big_quiet_op; refine hK _ ?_; clear hK K) | (refine mix_skip (by rfl) ?_; simp only [Act.put, List.setIfInBounds_toArray, List.set_cons_zero, List.set_cons_succ]))
      refine mix_row (by rfl) (by rfl) 36 (.tmp 10) rfl (gC + 1) (by rfl) _ _ _ hR Tryz.underlying36 rfl hsz ?_
      simp only [Act.put, List.setIfInBounds_toArray, List.set_cons_zero, List.set_cons_succ]
      refine mix_row (by rfl) (by rfl) 34 (.tmp 9) rfl gC (by rfl) _ _ _ hC Tryz.underlying34 rfl hsc ?_
      simp only [Act.put, List.setIfInBounds_toArray, List.set_cons_zero, List.set_cons_succ]
      (refine mix_loud (by rfl) (by rfl) (fun K E hK => ?_); go_big_op)
      change Calls _ _ #[.string (bs kk), r.v, (citeV c.fz P c.place Q c.hd)] _ _
      refine (H3.out _ _ _ (hKx _) (hPx _) (hQx _)).mono ?_; rintro e w3 ⟨rfl, hd'⟩
      obtain ⟨x1, rfl⟩ := more_ext x0 hd'
      refine hK _ _ ⟨_, rfl⟩ ?_; clear hK K E hd'
      iterate 5 (first | (refine mix_quiet (by rfl) (by rfl) (fun K hK => ?_); go_big_quiet_op; refine hK _ ?_; clear hK K) | (refine mix_skip (by rfl) ?_; simp only [Act.put, List.setIfInBounds_toArray, List.set_cons_zero, List.set_cons_succ]))
      refine mix_row (by rfl) (by rfl) 36 (.tmp 10) rfl (gC + 1) (by rfl) _ _ _ hR Tryz.underlying36 rfl hsz ?_
      simp only [Act.put, List.setIfInBounds_toArray, List.set_cons_zero, List.set_cons_succ]
      (refine mix_loud (by rfl) (by rfl) (fun K E hK => ?_); go_big_op)
      change Calls _ _ #[r.v] _ _
      refine (H4.out _).mono ?_; rintro e w3 ⟨rfl, hd'⟩
      obtain ⟨x2, rfl⟩ := more_ext x1 hd'
      refine hK _ _ ⟨_, rfl⟩ ?_; clear hK K E hd'
      refine mix_row (by rfl) (by rfl) 34 (.tmp 9) rfl gC (by rfl) _ _ _ hC Tryz.underlying34 rfl hsc ?_
      simp only [Act.put, List.setIfInBounds_toArray, List.set_cons_zero, List.set_cons_succ]
      (refine mix_loud (by rfl) (by rfl) (fun K E hK => ?_); go_big_op)
      change Calls _ _ #[.string (bs kk), .int .i64 20, .int .i64 r.idx, sumV lf, (citeV c.fz P c.place Q c.hd)] _ _
      refine (H5.out _ _ _ (hKx _) (hPx _) (hQx _)).mono ?_; rintro e w3 ⟨rfl, hd'⟩
      obtain ⟨x3, rfl⟩ := more_ext x2 hd'
      refine hK _ _ ⟨_, rfl⟩ ?_; clear hK K E hd'
      repeat (first | (refine mix_quiet (by rfl) (by rfl) (fun K hK => ?_); go_big_quiet_op; refine hK _ ?_; clear hK K) | (refine mix_skip (by rfl) ?_; simp only [Act.put, List.setIfInBounds_toArray, List.set_cons_zero, List.set_cons_succ]))
      refine mix_nil ?_
      clear hPx hQx hKx H3 H4 H5 k0 k1
      have e6 := grow_ext x3
      generalize grow w5 x3 = w6 at *
      replace hC := hC.ext e6
      replace hR := hR.ext e6
      replace hP := hP.ext e6
      replace hQ := hQ.ext e6
      replace hE := hE.trans e6
      clear e6 x0 x1 x2 x3
      have hlC := hC.lt
      have hlR := Blk.lt hR
      have hT6 := Blk.below HT.out hE hTl
      have k0 : w6.cell? ⟨gT, 0, none⟩ = some (.int .i64 t.win) := Blk.cell hT6 0
      have kb : w6.cell? ⟨gT, 1, none⟩ = some (.int .i64 t.cnt) := Blk.cell hT6 1
      have hts := Blk.range (pre := [.int .i64 t.win, .int .i64 t.cnt]) (mid := hcells t.root) (post := []) (by simpa [Seal.Fz.cells] using hT6) 2 rfl
      go_upto_if 45 with fail
      generalize t.win.tmod 9 = m at *
      go_cut [12] from 44 (fun s12 wx => ∃ n : Int, s12 = .int .i64 n ∧ w6 = wx)
      case first =>
        by_cases hneg : m < 0
        · go_wp2_with fail
          go_meet
          exact ⟨_, rfl, rfl⟩
        · go_wp2_with fail
          go_meet
          exact ⟨_, rfl, rfl⟩
      case rest =>
      obtain ⟨n, rfl, rfl⟩ := hcut
      clear k0
      go_upto_block 0 with fail
      go_cut [8] from 49 (fun s8 wx => ∃ (k' : List UInt8) (c' : Ct) (r' : Rc) (P' Q' : Value), s8 = .string (bs k') ∧ k'.length ≤ 41 ∧ fitC c' ∧ r'.pay.length ≤ 100 ∧ CiteAt wx gC c'.fz P' c'.place Q' c'.hd ∧ RecAt wx (gC + 1) r' ∧ SlS wx wx.heap.size P' c'.path ∧ SlS wx wx.heap.size Q' c'.super ∧ Ext w0 wx)
      case first =>
        have hPs : SlS w6 gC P c.path := own_low_sl hP HPl.out
        have hQs : SlS w6 gC Q c.super := own_low_sl hQ HQl.out
        by_cases h1 : n = 1
        · subst h1
          have fz0 := Blk.frozen hR 2
          have k2 := hR.cells.2.2.1
          have hU : ∀ v, Upd (gC + 1) w6 (w6.setCell ⟨(gC + 1), 2, none⟩ v) := fun v => (Upd.refl (gC + 1) w6).setCell (p := ⟨(gC + 1), 2, none⟩) (.inl rfl) v
          go_wp2_with fail
          go_meet
          exact ⟨kk, c, ⟨r.win, r.idx, wrap64 (r.time + 1), r.pay⟩, _, _, rfl, by omega, hfit, by show r.pay.length ≤ 100; omega, Blk.grown hC (hU _) (by simp), hR.time _, sls_upd hPs (hU _) (by omega) (by omega), sls_upd hQs (hU _) (by omega) (by omega), Ext.upd hE (hU _) (by omega)⟩
        have j1 : (n == 1) = false := by rw [beq_eq_false_iff_ne]; exact h1
        by_cases h2 : n = 2
        · subst h2
          have fz0 := Blk.frozen hR 3
          have k3 := hR.cells.2.2.2
          have hU : ∀ v, Upd (gC + 1) w6 (w6.setCell ⟨(gC + 1), 3, none⟩ v) := fun v => (Upd.refl (gC + 1) w6).setCell (p := ⟨(gC + 1), 3, none⟩) (.inl rfl) v
          go_wp2_with fail
          go_meet
          exact ⟨kk, c, ⟨r.win, r.idx, r.time, r.pay ++ [120]⟩, _, _, rfl, by omega, hfit, by show (r.pay ++ [120]).length ≤ 100; rw [List.length_append]; simp only [List.length_singleton]; omega, Blk.grown hC (hU _) (by simp), hR.pay (r.pay ++ [120]), sls_upd hPs (hU _) (by omega) (by omega), sls_upd hQs (hU _) (by omega) (by omega), Ext.upd hE (hU _) (by omega)⟩
        have j2 : (n == 2) = false := by rw [beq_eq_false_iff_ne]; exact h2
        by_cases h3 : n = 3
        · subst h3
          obtain ⟨AP, cP, rfl⟩ : ∃ A z, P = .slice A c.path.length z := by
            obtain ⟨A, z, e, _⟩ := hP
            exact ⟨A, z, e⟩
          have kp := hC.path r1 0 _ rfl
          by_cases hl' : c.path = []
          · have i0 : ¬ (0 : Int) < (c.path.length : Int) := by
              have h0 : c.path.length = 0 := by rw [hl']; rfl
              omega
            clear hl'
            go_wp2_with fail
            go_meet
            exact ⟨kk, c, r, _, _, rfl, by omega, hfit, by omega, hC, hR, hP.sl, hQ.sl, hE⟩
          · have hlp : 0 < c.path.length := List.length_pos_iff.2 hl'
            have i0 : (0 : Int) < (c.path.length : Int) := by omega
            obtain ⟨g, z, hv, hob, hBg, hlg, hth, hO⟩ := own_store0 hP hl' hfit.1.2.2.2.1 htr
            have hgC : g < gC := HPl.out hl' g hob
            injection hv with hv1 hv2 hv3
            subst hv1 hv3
            go_wp2_with (refine stop_load 28 (.tmp 69) rfl ?_)
            refine ⟨?_⟩
            refine wpList_load_mid rfl 28 (.tmp 69) rfl gT 2 (by rfl) (hcells t.root) _ hts Tryz.underlying28 rfl (size32l _ htr) ?_
            simp only [Act.put, List.setIfInBounds_toArray, List.set_cons_zero, List.set_cons_succ]
            go_wp2_with (refine stop_store 28 (.tmp 71) (.tmp 70) rfl ?_)
            refine ⟨?_⟩
            have hcl : (hcells t.root).toArray.size = 32 := by simp [hcells, htr]
            refine wpList_store_mid rfl 28 (.tmp 71) (.tmp 70) rfl g 0 (hcells t.root).toArray (by rfl) (by rfl) (by rw [hcl]; exact hth) (size32.trans (by rw [hcl])) (by simp [hcells, Value.oneCell', byteV]) ?_
            simp only [Act.put, List.setIfInBounds_toArray, List.set_cons_zero, List.set_cons_succ]
            have hU : Upd g w6 (w6.setCells g 0 (hcells t.root)) := upd_self _ _ _ (Upd.refl g w6)
            have hlen2 : (t.root :: c.path.tail).length ≤ 1000000 := by rw [List.length_cons, List.length_tail]; have := hfit.2.2.2; omega
            have hC2 : CiteAt (w6.setCells g 0 (hcells t.root)) gC c.fz _ c.place _ c.hd := Blk.grown hC hU (by simp; omega)
            have hR2 : RecAt (w6.setCells g 0 (hcells t.root)) (gC + 1) r := Blk.grown hR hU (by simp; omega)
            have hX2 := hQ.updN hU (fun hm e => Hap.out hl' hm (hob.trans e.symm))
            have hE2 := Ext.upd hE hU (by omega)
            clear hth hU
            change wpList _ _ _ _ _ (w6.setCells g 0 (hcells t.root))
            generalize (w6.setCells g 0 (hcells t.root)) = w7 at *
            go_wp2_with fail
            go_meet
            exact ⟨kk, ⟨c.fz, t.root :: c.path.tail, c.place, c.super, c.hd⟩, r, _, _, rfl, by omega, ⟨⟨r1, r2, r3, AllH.cons htr (fun s hs => hfit.1.2.2.2.1 s (List.mem_of_mem_tail hs)), hfit.1.2.2.2.2⟩, hfit.2.1, hfit.2.2.1, hlen2, hfit.2.2.2.2⟩, by omega, hC2, hR2, hO.sl, hX2.sl, hE2⟩
        have j3 : (n == 3) = false := by rw [beq_eq_false_iff_ne]; exact h3
        by_cases h4 : n = 4
        · subst h4
          obtain ⟨AQ, cQ, rfl⟩ : ∃ A z, Q = .slice A c.super.length z := by
            obtain ⟨A, z, e, _⟩ := hQ
            exact ⟨A, z, e⟩
          have kp := hC.super r1 0 _ rfl
          by_cases hl' : c.super = []
          · have i0 : ¬ (0 : Int) < (c.super.length : Int) := by
              have h0 : c.super.length = 0 := by rw [hl']; rfl
              omega
            clear hl'
            go_wp2_with fail
            go_meet
            exact ⟨kk, c, r, _, _, rfl, by omega, hfit, by omega, hC, hR, hP.sl, hQ.sl, hE⟩
          · have hlp : 0 < c.super.length := List.length_pos_iff.2 hl'
            have i0 : (0 : Int) < (c.super.length : Int) := by omega
            obtain ⟨g, z, hv, hob, hBg, hlg, hth, hO⟩ := own_store0 hQ hl' hfit.1.2.2.2.2 htr
            have hgC : g < gC := HQl.out hl' g hob
            injection hv with hv1 hv2 hv3
            subst hv1 hv3
            go_wp2_with (refine stop_load 28 (.tmp 80) rfl ?_)
            refine ⟨?_⟩
            refine wpList_load_mid rfl 28 (.tmp 80) rfl gT 2 (by rfl) (hcells t.root) _ hts Tryz.underlying28 rfl (size32l _ htr) ?_
            simp only [Act.put, List.setIfInBounds_toArray, List.set_cons_zero, List.set_cons_succ]
            go_wp2_with (refine stop_store 28 (.tmp 82) (.tmp 81) rfl ?_)
            refine ⟨?_⟩
            have hcl : (hcells t.root).toArray.size = 32 := by simp [hcells, htr]
            refine wpList_store_mid rfl 28 (.tmp 82) (.tmp 81) rfl g 0 (hcells t.root).toArray (by rfl) (by rfl) (by rw [hcl]; exact hth) (size32.trans (by rw [hcl])) (by simp [hcells, Value.oneCell', byteV]) ?_
            simp only [Act.put, List.setIfInBounds_toArray, List.set_cons_zero, List.set_cons_succ]
            have hU : Upd g w6 (w6.setCells g 0 (hcells t.root)) := upd_self _ _ _ (Upd.refl g w6)
            have hlen2 : (t.root :: c.super.tail).length ≤ 1000000 := by rw [List.length_cons, List.length_tail]; have := hfit.2.2.2; omega
            have hC2 : CiteAt (w6.setCells g 0 (hcells t.root)) gC c.fz _ c.place _ c.hd := Blk.grown hC hU (by simp; omega)
            have hR2 : RecAt (w6.setCells g 0 (hcells t.root)) (gC + 1) r := Blk.grown hR hU (by simp; omega)
            have hX2 := hP.updN hU (fun hm e => Hap.out hm hl' (e.trans hob.symm))
            have hE2 := Ext.upd hE hU (by omega)
            clear hth hU
            change wpList _ _ _ _ _ (w6.setCells g 0 (hcells t.root))
            generalize (w6.setCells g 0 (hcells t.root)) = w7 at *
            go_wp2_with fail
            go_meet
            exact ⟨kk, ⟨c.fz, c.path, c.place, t.root :: c.super.tail, c.hd⟩, r, _, _, rfl, by omega, ⟨⟨r1, r2, r3, hfit.1.2.2.2.1, AllH.cons htr (fun s hs => hfit.1.2.2.2.2 s (List.mem_of_mem_tail hs))⟩, hfit.2.1, hfit.2.2.1, hfit.2.2.2.1, hlen2⟩, by omega, hC2, hR2, hX2.sl, hO.sl, hE2⟩
        have j4 : (n == 4) = false := by rw [beq_eq_false_iff_ne]; exact h4
        by_cases h5 : n = 5
        · subst h5
          have fz0 := Blk.frozen hC 35
          have k2 := hC.place r1 0 _ rfl
          have hU : ∀ v, Upd gC w6 (w6.setCell ⟨gC, 35, none⟩ v) := fun v => (Upd.refl gC w6).setCell (p := ⟨gC, 35, none⟩) (.inl rfl) v
          go_wp2_with fail
          go_meet
          exact ⟨kk, ⟨c.fz, c.path, wrap64 (c.place + t.cnt), c.super, c.hd⟩, r, _, _, rfl, by omega, hfit, by omega, hC.setPlace r1 _, Blk.grown hR (hU _) (by simp), sls_upd hPs (hU _) (by omega) (by omega), sls_upd hQs (hU _) (by omega) (by omega), Ext.upd hE (hU _) (by omega)⟩
        have j5 : (n == 5) = false := by rw [beq_eq_false_iff_ne]; exact h5
        by_cases h6 : n = 6
        · subst h6
          have fz0 := Blk.frozen hC 70
          have k2 := hC.clock r1 r2
          have hU : ∀ v, Upd gC w6 (w6.setCell ⟨gC, 70, none⟩ v) := fun v => (Upd.refl gC w6).setCell (p := ⟨gC, 70, none⟩) (.inl rfl) v
          go_wp2_with fail
          go_meet
          exact ⟨kk, ⟨c.fz, c.path, c.place, c.super, ⟨c.hd.size, c.hd.root, wrap64 (c.hd.clock + t.cnt), c.hd.mac⟩⟩, r, _, _, rfl, by omega, hfit, by omega, hC.setClock r1 r2 _, Blk.grown hR (hU _) (by simp), sls_upd hPs (hU _) (by omega) (by omega), sls_upd hQs (hU _) (by omega) (by omega), Ext.upd hE (hU _) (by omega)⟩
        have j6 : (n == 6) = false := by rw [beq_eq_false_iff_ne]; exact h6
        by_cases h7 : n = 7
        · subst h7
          have fz0 := Blk.frozen hC 1
          have k2 := hC.fld.2.1
          have hU : ∀ v, Upd gC w6 (w6.setCell ⟨gC, 1, none⟩ v) := fun v => (Upd.refl gC w6).setCell (p := ⟨gC, 1, none⟩) (.inl rfl) v
          go_wp2_with fail
          go_meet
          exact ⟨kk, ⟨⟨c.fz.win, wrap64 (c.fz.cnt + t.cnt), c.fz.root⟩, c.path, c.place, c.super, c.hd⟩, r, _, _, rfl, by omega, ⟨hfit.1, wrap_top _, hfit.2.2⟩, by omega, hC.setCnt _, Blk.grown hR (hU _) (by simp), sls_upd hPs (hU _) (by omega) (by omega), sls_upd hQs (hU _) (by omega) (by omega), Ext.upd hE (hU _) (by omega)⟩
        have j7 : (n == 7) = false := by rw [beq_eq_false_iff_ne]; exact h7
        by_cases h8 : n = 8
        · subst h8
          go_wp2_with fail
          go_meet
          exact ⟨(kk ++ [107]), c, r, _, _, rfl, by rw [List.length_append]; simp only [List.length_singleton]; omega, hfit, by omega, hC, hR, hP.sl, hQ.sl, hE⟩
        have j8 : (n == 8) = false := by rw [beq_eq_false_iff_ne]; exact h8
        go_wp2_with fail
        go_meet
        exact ⟨kk, c, r, _, _, rfl, by omega, hfit, by omega, hC, hR, hP.sl, hQ.sl, hE⟩
      case rest =>
      obtain ⟨k', c', r', P', Q', rfl, hk', hfit', hpay', hC', hR', hP', hQ', hE'⟩ := hcut
      clear hC hR hP hQ hE hfit hpay Hap HPl HQl hlC hlR r1 r2 r3 kb hts hT6 hkl
      obtain ⟨r1, r2, r3, -, -⟩ := id hfit'.1
      have HR := fun P Q w KW h1 h2 => ctRight_calls k' (by omega) r' (by omega) c' hfit' P Q w KW h1 h2
      have HF := fun P Q w h1 h2 => cfRight_calls k' (by omega) r' (by omega) c' hfit' P Q w h1 h2
      generalize rightCB k' r' c' = d at *
      have hdd : (d != d) = false := by simp
      have H3 := Lib.hid HR; have H4 := Lib.hid HF
      clear HR HF
      have hlC := hC'.lt
      have hlR := Blk.lt hR'
      have hPx : ∀ y : More wc, SlS (grow wc y) (grow wc y).heap.size P' c'.path := fun y => hP'.ext (grow_ext y)
      have hQx : ∀ y : More wc, SlS (grow wc y) (grow wc y).heap.size Q' c'.super := fun y => hQ'.ext (grow_ext y)
      have hKx : ∀ y : More wc, Keys (grow wc y) := fun y => (KW.ext hE').ext (grow_ext y)
      go_upto_region 29 with fail
      refine region_mix0 (by kernel_rfl) (by kernel_rfl) (fun x0 => ?_)
      iterate 1 (first | (refine mix_quiet (by rfl) (by rfl) (fun K hK => ?_); go_big_quiet_op; refine hK _ ?_; clear hK K) | (refine mix_skip (by rfl) ?_; simp only [Act.put, List.setIfInBounds_toArray, List.set_cons_zero, List.set_cons_succ]))
      refine mix_row (by rfl) (by rfl) 36 (.tmp 10) rfl (gC + 1) (by rfl) _ _ _ hR' Tryz.underlying36 rfl (size_rc r') ?_
      simp only [Act.put, List.setIfInBounds_toArray, List.set_cons_zero, List.set_cons_succ]
      refine mix_row (by rfl) (by rfl) 34 (.tmp 9) rfl gC (by rfl) _ _ _ hC' Tryz.underlying34 rfl (size_ct r1 r2 r3) ?_
      simp only [Act.put, List.setIfInBounds_toArray, List.set_cons_zero, List.set_cons_succ]
      (refine mix_loud (by rfl) (by rfl) (fun K E hK => ?_); go_big_op)
      change Calls _ _ #[.string (bs k'), r'.v, citeV c'.fz P' c'.place Q' c'.hd] _ _
      refine (H3.out _ _ _ (hKx _) (hPx _) (hQx _)).mono ?_; rintro e w3 ⟨rfl, hd'⟩
      obtain ⟨x1, rfl⟩ := more_ext x0 hd'
      refine hK _ _ ⟨_, rfl⟩ ?_; clear hK K E hd'
      iterate 1 (first | (refine mix_quiet (by rfl) (by rfl) (fun K hK => ?_); go_big_quiet_op; refine hK _ ?_; clear hK K) | (refine mix_skip (by rfl) ?_; simp only [Act.put, List.setIfInBounds_toArray, List.set_cons_zero, List.set_cons_succ]))
      refine mix_row (by rfl) (by rfl) 36 (.tmp 10) rfl (gC + 1) (by rfl) _ _ _ hR' Tryz.underlying36 rfl (size_rc r') ?_
      simp only [Act.put, List.setIfInBounds_toArray, List.set_cons_zero, List.set_cons_succ]
      refine mix_row (by rfl) (by rfl) 34 (.tmp 9) rfl gC (by rfl) _ _ _ hC' Tryz.underlying34 rfl (size_ct r1 r2 r3) ?_
      simp only [Act.put, List.setIfInBounds_toArray, List.set_cons_zero, List.set_cons_succ]
      (refine mix_loud (by rfl) (by rfl) (fun K E hK => ?_); go_big_op)
      change Calls _ _ #[.string (bs k'), r'.v, citeV c'.fz P' c'.place Q' c'.hd] _ _
      refine (H4.out _ _ _ (hPx _) (hQx _)).mono ?_; rintro e w3 ⟨rfl, hd'⟩
      obtain ⟨x2, rfl⟩ := more_ext x1 hd'
      refine hK _ _ ⟨_, rfl⟩ ?_; clear hK K E hd'
      repeat (first | (refine mix_quiet (by rfl) (by rfl) (fun K hK => ?_); go_big_quiet_op; refine hK _ ?_; clear hK K) | (refine mix_skip (by rfl) ?_; simp only [Act.put, List.setIfInBounds_toArray, List.set_cons_zero, List.set_cons_succ]))
      refine mix_nil ?_
      go_wp2_with fail
      go_meet
      exact ⟨k', rfl, hk', hE'.trans (grow_ext _)⟩
  case rest =>
    obtain ⟨k', rfl, hk', hE'⟩ := hcut
    clear hC hR hP hQ hE hfit hpay hap hPl hQl hsz4 hbt r1 r2 r3 hkl
    have hRaw' := hRaw.ext hE'
    have hT' := Blk.below hT hE' hTl
    have hXP : SlS wc wc.heap.size aP a.path := haP.ext hE'
    have hXQ : SlS wc wc.heap.size aQ a.super := haQ.ext hE'
    clear haP haQ hRaw hT
    have hxo := cut70_ok a hao
    have hx1 : (cut70 a).path.length ≤ 70 := by unfold cut70; simp only [List.length_take]; omega
    have hx2 : (cut70 a).super.length ≤ 70 := by unfold cut70; simp only [List.length_take]; omega
    have hxc : (cut70 a).fz = a.fz := rfl
    have hxh : (cut70 a).hd = a.hd := rfl
    have HSm := Lib.hid (fun w T hT h1 h2 => small19_calls a hao aP aQ w T hT h1 h2)
    obtain ⟨a1, a2, a3, -, -⟩ := hao
    have hxf : fitC (cut70 a) := ⟨hxo, hac.1, hac.2, by omega, by omega⟩
    go_wp2_with (refine stop_load 34 (.tmp 124) rfl ?_)
    refine ⟨?_⟩
    have hmd := hRaw'.cite
    refine wpList_load_mid rfl 34 (.tmp 124) rfl gX 0 (by rfl) (citeC a.fz aP a.place aQ a.hd) _ hmd Tryz.underlying34 rfl ((size_ct a1 a2 a3).trans (by rw [List.size_toArray])) ?_
    simp only [Act.put, List.setIfInBounds_toArray, List.set_cons_zero, List.set_cons_succ]
    clear hmd
    go_wp2_with fail
    change Calls _ _ #[citeV a.fz aP a.place aQ a.hd] _ _
    refine (HSm.out _ _ (Nat.le_refl _) hXP hXQ).mono ?_; rintro e w6 ⟨P2, Q2, rfl, hP2, hQ2, e6⟩
    replace hP2 := hP2.more e6.size
    replace hQ2 := hQ2.more e6.size
    replace hRaw' := hRaw'.ext e6
    replace hT' := Blk.below hT' e6 (Blk.lt hT')
    replace hE' := hE'.trans e6
    clear e6 hXP hXQ HSm hxc hxh
    have hraw2 := hRaw'.rec_ a1 a2 a3
    generalize cut70 a = x at *
    obtain ⟨xa1, xa2, xa3, x4, x5⟩ := hxo
    have hF := Ext.refl w6
    go_wp2_with (refine stop_store 34 (.tmp 13) (.tmp 126) rfl ?_)
    refine ⟨?_⟩
    change wpList _ _ _ _ _ (w6.alloc (.cells (citeC Seal.zF (.slice none 0 0) 0 (.slice none 0 0) Seal.zH).toArray 34))
    have hD0 : Blk (w6.alloc (.cells (citeC Seal.zF (.slice none 0 0) 0 (.slice none 0 0) Seal.zH).toArray 34)) w6.heap.size 34 (citeC Seal.zF (.slice none 0 0) 0 (.slice none 0 0) Seal.zH).toArray := Blk.new w6 _ _
    have e73a := (Ext.refl w6).alloc (.cells (citeC Seal.zF (.slice none 0 0) 0 (.slice none 0 0) Seal.zH).toArray 34)
    obtain ⟨g72, g72e⟩ : ∃ g72, g72 = w6.heap.size := ⟨_, rfl⟩
    rw [← g72e] at hD0
    try rw [← g72e]
    have g72b : w6.heap.size ≤ g72 := by omega
    generalize w6.alloc (.cells (citeC Seal.zF (.slice none 0 0) 0 (.slice none 0 0) Seal.zH).toArray 34) = v71' at *
    refine wpList_store_row rfl 34 (.tmp 13) (.tmp 126) rfl g72 (citeC x.fz P2 x.place Q2 x.hd).toArray (by rfl) (by rfl) 34 _ hD0 (size_ct xa1 xa2 xa3) (by simp only [List.size_toArray]; rw [citeC_length xa1 xa2 xa3]; rfl) (all_oneCell_toArray (citeC_one hP2.oneCell hQ2.oneCell)) ?_
    simp only [Act.put, List.setIfInBounds_toArray, List.set_cons_zero, List.set_cons_succ]
    have hD : CiteAt (v71'.setRow g72 (citeC x.fz P2 x.place Q2 x.hd).toArray) g72 x.fz P2 x.place Q2 x.hd := Blk.row hD0 _
    have e73 : Ext w6 (v71'.setRow g72 (citeC x.fz P2 x.place Q2 x.hd).toArray) := e73a.row g72b _
    clear hD0 e73a g72e
    generalize v71'.setRow g72 (citeC x.fz P2 x.place Q2 x.hd).toArray = v71 at *
    clear v71' 
    have sz73 := e73.size
    replace hF := hF.trans e73
    clear e73
    go_wp2_with (refine stop_load 36 (.tmp 127) rfl ?_)
    refine ⟨?_⟩
    refine wpList_load_mid rfl 36 (.tmp 127) rfl gX 103 (by rfl) (y.cells) _ (fun i v hv => cell_ext hF (hraw2 i v hv)) Tryz.underlying36 rfl (size_rc y) ?_
    simp only [Act.put, List.setIfInBounds_toArray, List.set_cons_zero, List.set_cons_succ]
    go_wp2_with (refine stop_store 36 (.tmp 14) (.tmp 128) rfl ?_)
    refine ⟨?_⟩
    change wpList _ _ _ _ _ (v71.alloc (.cells #[.int .i64 0, .int .i64 0, .int .i64 0, .string ⟨#[]⟩] 36))
    have hS0 : RecAt (v71.alloc (.cells #[.int .i64 0, .int .i64 0, .int .i64 0, .string ⟨#[]⟩] 36)) v71.heap.size ⟨0, 0, 0, []⟩ := Blk.new v71 _ _
    have eA := (Ext.refl v71).alloc (.cells #[.int .i64 0, .int .i64 0, .int .i64 0, .string ⟨#[]⟩] 36)
    obtain ⟨gS, hgS⟩ : ∃ g, g = v71.heap.size := ⟨_, rfl⟩
    rw [← hgS] at hS0
    try rw [← hgS]
    have hlD := Blk.lt hD
    have hgb : v71.heap.size ≤ gS := by omega
    have hgDS : g72 ≠ gS := by omega
    have hgS6 : w6.heap.size ≤ gS := by have := hF.size; omega
    generalize (v71.alloc (.cells #[.int .i64 0, .int .i64 0, .int .i64 0, .string ⟨#[]⟩] 36)) = v74' at *
    refine wpList_store_row rfl 36 (.tmp 14) (.tmp 128) rfl gS #[.int .i64 y.win, .int .i64 y.idx, .int .i64 y.time, .string (bs y.pay)] (by rfl) (by rfl) 36 _ hS0 (size_rc y) (by rfl) (by simp [Value.oneCell']) ?_
    simp only [Act.put, List.setIfInBounds_toArray, List.set_cons_zero, List.set_cons_succ]
    have hS : RecAt (v74'.setRow gS #[.int .i64 y.win, .int .i64 y.idx, .int .i64 y.time, .string (bs y.pay)]) gS y := Blk.row hS0 _
    have e8 : Ext v71 (v74'.setRow gS #[.int .i64 y.win, .int .i64 y.idx, .int .i64 y.time, .string (bs y.pay)]) := eA.row hgb _
    clear hS0 eA hgS hgb
    generalize v74'.setRow gS #[.int .i64 y.win, .int .i64 y.idx, .int .i64 y.time, .string (bs y.pay)] = v74 at *
    clear v74' 
    replace hD := hD.ext e8
    have sz74 := e8.size
    replace hF := hF.trans e8
    clear e8
    go_wp2_with (refine stop_load 9 (.tmp 129) rfl ?_)
    refine ⟨?_⟩
    have k0 := hS.cells.2.2.2
    go_wp2_with fail
    refine (short19_calls y.pay 2010 _ hy2 (by omega)).mono ?_; rintro e w' ⟨rfl, rfl⟩
    have hzl : (y.pay.take 2010).length ≤ 2010 := by rw [List.length_take]; omega
    generalize y.pay.take 2010 = z at *
    have fz0 := Blk.frozen hS 3
    have lt0 := Blk.lt hS
    have hUc : Upd gS v74 (v74.setCell ⟨gS, 3, none⟩ (.string (bs z))) := (Upd.refl gS v74).setCell (p := ⟨gS, 3, none⟩) (.inl rfl) _
    go_upto_region 34 with fail
    clear fz0 k0 lt0
    replace hD : CiteAt (v74.setCell ⟨gS, 3, none⟩ (.string (bs z))) g72 x.fz P2 x.place Q2 x.hd := Blk.grown hD hUc (by simp; omega)
    replace hS : RecAt (v74.setCell ⟨gS, 3, none⟩ (.string (bs z))) gS ⟨y.win, y.idx, y.time, z⟩ := hS.pay z
    replace hF := Ext.upd hF hUc (show w6.heap.size ≤ gS by omega)
    clear hUc
    generalize (v74.setCell ⟨gS, 3, none⟩ (.string (bs z))) = v9 at *
    obtain ⟨p, hpp⟩ : ∃ p : Rc, p = ⟨y.win, y.idx, y.time, z⟩ := ⟨_, rfl⟩
    rw [← hpp] at hS
    have hzp : p.pay.length ≤ 2010 := by rw [hpp]; exact hzl
    clear hpp hzl
    have hT9 := Blk.below hT' hF (Blk.lt hT')
    have hts := Blk.range (pre := [.int .i64 t.win, .int .i64 t.cnt]) (mid := hcells t.root) (post := []) (by simpa [Seal.Fz.cells] using hT9) 2 rfl
    have hTlt := Blk.lt hT9
    have hDl := Blk.lt hD
    have hSl := Blk.lt hS
    obtain ⟨k0, k1, -, -⟩ := hS.cells
    have HR := fun P Q w KW h1 h2 => ctRight_calls k' (by omega) p (by omega) x hxf P Q w KW h1 h2
    have HF := fun P Q w h1 h2 => cfRight_calls k' (by omega) p (by omega) x hxf P Q w h1 h2
    generalize rightCB k' p x = d at *
    have HLR := fun P Q w KW h1 h2 => ctLeafRight_calls k' (by omega) p.win p.idx t.root htr x hxf P Q w KW h1 h2
    have HLF := fun P Q w h1 h2 => cfLeafRight_calls k' (by omega) p.win p.idx t.root htr x hxf P Q w h1 h2
    generalize leafRightB k' p.win p.idx t.root x = d2 at *
    have hdd : (d == d) = true := by simp
    have hdd2 : (d2 == d2) = true := by simp
    have H3 := Lib.hid HR; have H4 := Lib.hid HF; have H5 := Lib.hid HLR; have H6 := Lib.hid HLF
    clear HR HF HLR HLF
    have hPx : ∀ y : More v9, SlS (grow v9 y) (grow v9 y).heap.size P2 x.path := fun y => hP2.ext (hF.trans (grow_ext y))
    have hQx : ∀ y : More v9, SlS (grow v9 y) (grow v9 y).heap.size Q2 x.super := fun y => hQ2.ext (hF.trans (grow_ext y))
    have hKx : ∀ y : More v9, Keys (grow v9 y) := fun y => (KW.ext (hE'.trans hF)).ext (grow_ext y)
    refine region_mix0 (by kernel_rfl) (by kernel_rfl) (fun x0 => ?_)
    iterate 3 (first | (refine mix_quiet (by rfl) (by rfl) (fun K hK => ?_); go_big_quiet_op; refine hK _ ?_; clear hK K) | (refine mix_skip (by rfl) ?_; simp only [Act.put, List.setIfInBounds_toArray, List.set_cons_zero, List.set_cons_succ]))
    refine mix_row (by rfl) (by rfl) 36 (.tmp 14) rfl gS (by rfl) _ _ _ hS Tryz.underlying36 rfl (size_rc p) ?_
    simp only [Act.put, List.setIfInBounds_toArray, List.set_cons_zero, List.set_cons_succ]
    refine mix_row (by rfl) (by rfl) 34 (.tmp 13) rfl g72 (by rfl) _ _ _ hD Tryz.underlying34 rfl (size_ct xa1 xa2 xa3) ?_
    simp only [Act.put, List.setIfInBounds_toArray, List.set_cons_zero, List.set_cons_succ]
    (refine mix_loud (by rfl) (by rfl) (fun K E hK => ?_); go_big_op)
    change Calls _ _ #[.string (bs k'), p.v, citeV x.fz P2 x.place Q2 x.hd] _ _
    refine (H3.out _ _ _ (hKx _) (hPx _) (hQx _)).mono ?_; rintro e w3 ⟨rfl, hd'⟩
    obtain ⟨x1, rfl⟩ := more_ext x0 hd'
    refine hK _ _ ⟨_, rfl⟩ ?_; clear hK K E hd'
    iterate 1 (first | (refine mix_quiet (by rfl) (by rfl) (fun K hK => ?_); go_big_quiet_op; refine hK _ ?_; clear hK K) | (refine mix_skip (by rfl) ?_; simp only [Act.put, List.setIfInBounds_toArray, List.set_cons_zero, List.set_cons_succ]))
    refine mix_row (by rfl) (by rfl) 36 (.tmp 14) rfl gS (by rfl) _ _ _ hS Tryz.underlying36 rfl (size_rc p) ?_
    simp only [Act.put, List.setIfInBounds_toArray, List.set_cons_zero, List.set_cons_succ]
    refine mix_row (by rfl) (by rfl) 34 (.tmp 13) rfl g72 (by rfl) _ _ _ hD Tryz.underlying34 rfl (size_ct xa1 xa2 xa3) ?_
    simp only [Act.put, List.setIfInBounds_toArray, List.set_cons_zero, List.set_cons_succ]
    (refine mix_loud (by rfl) (by rfl) (fun K E hK => ?_); go_big_op)
    change Calls _ _ #[.string (bs k'), p.v, citeV x.fz P2 x.place Q2 x.hd] _ _
    refine (H4.out _ _ _ (hPx _) (hQx _)).mono ?_; rintro e w3 ⟨rfl, hd'⟩
    obtain ⟨x2, rfl⟩ := more_ext x1 hd'
    refine hK _ _ ⟨_, rfl⟩ ?_; clear hK K E hd'
    iterate 9 (first | (refine mix_quiet (by rfl) (by rfl) (fun K hK => ?_); go_big_quiet_op; refine hK _ ?_; clear hK K) | (refine mix_skip (by rfl) ?_; simp only [Act.put, List.setIfInBounds_toArray, List.set_cons_zero, List.set_cons_succ]))
    refine mix_mid (by rfl) (by rfl) 28 (.tmp 151) rfl gT 2 (by rfl) (hcells t.root) _ hts hTlt Tryz.underlying28 rfl (size32l _ htr) ?_
    simp only [Act.put, List.setIfInBounds_toArray, List.set_cons_zero, List.set_cons_succ]
    refine mix_row (by rfl) (by rfl) 34 (.tmp 13) rfl g72 (by rfl) _ _ _ hD Tryz.underlying34 rfl (size_ct xa1 xa2 xa3) ?_
    simp only [Act.put, List.setIfInBounds_toArray, List.set_cons_zero, List.set_cons_succ]
    (refine mix_loud (by rfl) (by rfl) (fun K E hK => ?_); go_big_op)
    change Calls _ _ #[.string (bs k'), .int .i64 p.win, .int .i64 p.idx, sumV t.root, citeV x.fz P2 x.place Q2 x.hd] _ _
    refine (H5.out _ _ _ (hKx _) (hPx _) (hQx _)).mono ?_; rintro e w3 ⟨rfl, hd'⟩
    obtain ⟨x3, rfl⟩ := more_ext x2 hd'
    refine hK _ _ ⟨_, rfl⟩ ?_; clear hK K E hd'
    iterate 6 (first | (refine mix_quiet (by rfl) (by rfl) (fun K hK => ?_); go_big_quiet_op; refine hK _ ?_; clear hK K) | (refine mix_skip (by rfl) ?_; simp only [Act.put, List.setIfInBounds_toArray, List.set_cons_zero, List.set_cons_succ]))
    refine mix_mid (by rfl) (by rfl) 28 (.tmp 160) rfl gT 2 (by rfl) (hcells t.root) _ hts hTlt Tryz.underlying28 rfl (size32l _ htr) ?_
    simp only [Act.put, List.setIfInBounds_toArray, List.set_cons_zero, List.set_cons_succ]
    refine mix_row (by rfl) (by rfl) 34 (.tmp 13) rfl g72 (by rfl) _ _ _ hD Tryz.underlying34 rfl (size_ct xa1 xa2 xa3) ?_
    simp only [Act.put, List.setIfInBounds_toArray, List.set_cons_zero, List.set_cons_succ]
    (refine mix_loud (by rfl) (by rfl) (fun K E hK => ?_); go_big_op)
    change Calls _ _ #[.string (bs k'), .int .i64 p.win, .int .i64 p.idx, sumV t.root, citeV x.fz P2 x.place Q2 x.hd] _ _
    refine (H6.out _ _ _ (hPx _) (hQx _)).mono ?_; rintro e w3 ⟨rfl, hd'⟩
    obtain ⟨x4, rfl⟩ := more_ext x3 hd'
    refine hK _ _ ⟨_, rfl⟩ ?_; clear hK K E hd'
    repeat (first | (refine mix_quiet (by rfl) (by rfl) (fun K hK => ?_); go_big_quiet_op; refine hK _ ?_; clear hK K) | (refine mix_skip (by rfl) ?_; simp only [Act.put, List.setIfInBounds_toArray, List.set_cons_zero, List.set_cons_succ]))
    refine mix_nil ?_
    go_wp2_with fail
    go_ret
    exact ⟨rfl, hE0.trans ((hE'.trans hF).trans (grow_ext _))⟩

set_option maxRecDepth 100000 in
theorem contract (H : Type) (enc : TypeId × Value → H) (W : World) (base : Nat) (args : Array Value) (ds gs : List (DataW H)) (before : List MemPlace)
    (hval0 : ∀ (j : Nat) t v, Tryz.f5.params[j]? = some t → args[j]? = some v → Value.okWide Tryz.prog W .any base t v)
    (hW : DataW.Whole enc Tryz.prog Tryz.f5.params.toList Rows.citeTellsSpec.vars false W args.toList ds gs before) (hL : laidMetH Tryz.prog Rows.citeTellsRow.laid W) :
    Calls Tryz.prog 5 args W fun e W' => ∃ v, e = .returned v ∧ Rows.citeTellsSpec.post enc Tryz.prog Tryz.f5 false true false false W args v W' := by
  have K : Keys W := keys_of hL
  have hval : ∀ (j : Nat) t v, Tryz.f5.params[j]? = some t → args[j]? = some v → Value.okWide Tryz.prog W .any base t v := hval0
  have hW' := hW
  obtain ⟨p, q, hA0, hV, rfl, hfz, hnd⟩ := hW
  have hA : DataW.TrodAll enc Tryz.prog W 0 (fun _ => true) true Tryz.f5.params.toList args.toList ds p := hA0
  rw [Tryz.params5] at hA hval
  obtain ⟨v0, vs0, d0, ds0, p0, q0, hargs, rfl, rfl, hx0, r0⟩ := trodAll_cons hA
  obtain ⟨v1, vs1, d1, ds1, p1, q1, rfl, rfl, rfl, hx1, r1⟩ := trodAll_cons r0
  obtain ⟨v2, vs2, d2, ds2, p2, q2, rfl, rfl, rfl, hx2, r2⟩ := trodAll_cons r1
  obtain ⟨rfl, rfl, rfl⟩ := trodAll_nil r2
  obtain rfl : args = #[v0, v1, v2] := by cases args; simp_all
  obtain ⟨rfl, rfl⟩ := trodVars_none hV
  obtain ⟨d, Ad, cd, qd, sd, rfl, hd⟩ := op_wd (hval 0 25 v0 rfl rfl) (tr_of hx0)
  obtain ⟨f, rfl, hf⟩ := op_turn (hval 1 53 v1 rfl rfl) (tr_of hx1)
  obtain ⟨b, bP, bQ, bR, rfl, ⟨hbo, hbc⟩, hbP, hbQ, -, hbp⟩ := op_raw2 (hval 2 55 v2 rfl rfl) (tr_of hx2)
  refine (walk d Ad cd qd sd f hf.2.2 b bP bQ bR hbo hbc hbp W K hd hbP hbQ).mono fun e W' ⟨he, hg⟩ => ?_
  subst he
  exact ⟨_, rfl, law_post hW' rfl rfl (by kernel_rfl) rfl rfl rfl hg⟩

theorem laid_met (os : Os) : laidMet Tryz.prog Rows.citeTellsRow.laid ((keysWorld os).forCall (fun _ _ => 0) ⟨#[], #[.agg #[.slice none 0 0, .slice none 0 0, .slice none 0 0, .int .i64 0, .string .empty], .agg (Array.mk (α := Value) ((Value.int IntKind.i64 0 :: Value.int IntKind.i64 0 :: List.replicate 32 (Value.int IntKind.u8 0)))), .agg (Array.mk (α := Value) (((Value.int IntKind.i64 0 :: Value.int IntKind.i64 0 :: List.replicate 32 (Value.int IntKind.u8 0)) ++ (Value.slice none 0 0 :: Value.int IntKind.i64 0 :: Value.slice none 0 0 :: (Value.int IntKind.i64 0 :: (List.replicate 32 (Value.int IntKind.u8 0) ++ (Value.int IntKind.i64 0 :: List.replicate 32 (Value.int IntKind.u8 0)))))) ++ [Value.int IntKind.i64 0, Value.int IntKind.i64 0, Value.int IntKind.i64 0, Value.string .empty]))], []⟩).memory :=
  laidMet_of_run' 8 (by kernel_rfl) (by kernel_rfl)
theorem reads (os : Os) {H : Type} (enc : TypeId × Value → H) : ∃ x, DataW.whole enc Tryz.prog ((keysWorld os).forCall (fun _ _ => 0) ⟨#[], #[.agg #[.slice none 0 0, .slice none 0 0, .slice none 0 0, .int .i64 0, .string .empty], .agg (Array.mk (α := Value) ((Value.int IntKind.i64 0 :: Value.int IntKind.i64 0 :: List.replicate 32 (Value.int IntKind.u8 0)))), .agg (Array.mk (α := Value) (((Value.int IntKind.i64 0 :: Value.int IntKind.i64 0 :: List.replicate 32 (Value.int IntKind.u8 0)) ++ (Value.slice none 0 0 :: Value.int IntKind.i64 0 :: Value.slice none 0 0 :: (Value.int IntKind.i64 0 :: (List.replicate 32 (Value.int IntKind.u8 0) ++ (Value.int IntKind.i64 0 :: List.replicate 32 (Value.int IntKind.u8 0)))))) ++ [Value.int IntKind.i64 0, Value.int IntKind.i64 0, Value.int IntKind.i64 0, Value.string .empty]))], []⟩).memory Tryz.f5.params.toList Rows.citeTellsSpec.vars false (#[.agg #[.slice none 0 0, .slice none 0 0, .slice none 0 0, .int .i64 0, .string .empty], .agg (Array.mk (α := Value) ((Value.int IntKind.i64 0 :: Value.int IntKind.i64 0 :: List.replicate 32 (Value.int IntKind.u8 0)))), .agg (Array.mk (α := Value) (((Value.int IntKind.i64 0 :: Value.int IntKind.i64 0 :: List.replicate 32 (Value.int IntKind.u8 0)) ++ (Value.slice none 0 0 :: Value.int IntKind.i64 0 :: Value.slice none 0 0 :: (Value.int IntKind.i64 0 :: (List.replicate 32 (Value.int IntKind.u8 0) ++ (Value.int IntKind.i64 0 :: List.replicate 32 (Value.int IntKind.u8 0)))))) ++ [Value.int IntKind.i64 0, Value.int IntKind.i64 0, Value.int IntKind.i64 0, Value.string .empty]))] : Array Value).toList 8 = some x :=
  Option.isSome_iff_exists.1 (by kernel_rfl)
set_option maxRecDepth 100000 in
theorem lifted (os : Os) (started : os.Started) (H : Type) (enc : TypeId × Value → H) (F : Stop.Interp) :
    ReturnsInHanded {} Tryz.checked os 5 .any ((OpenSpec.ofChange Rows.citeTellsSpec).preRow enc Tryz.prog Tryz.f5 Rows.citeTellsRow.domain false Rows.citeTellsRow.laid) (((OpenSpec.ofChange Rows.citeTellsSpec).at F).post enc Tryz.prog Tryz.f5 false true false false) := by
  obtain ⟨x, hx⟩ := reads os enc
  refine returnsInHanded_of_row (C := Tryz.checked) (s := OpenSpec.ofChange Rows.citeTellsSpec) own_ started (by kernel_rfl) Tryz.func5
    (witness_row_at (enc := enc) (C := Tryz.checked) false (keysWorld os) #[.agg #[.slice none 0 0, .slice none 0 0, .slice none 0 0, .int .i64 0, .string .empty], .agg (Array.mk (α := Value) ((Value.int IntKind.i64 0 :: Value.int IntKind.i64 0 :: List.replicate 32 (Value.int IntKind.u8 0)))), .agg (Array.mk (α := Value) (((Value.int IntKind.i64 0 :: Value.int IntKind.i64 0 :: List.replicate 32 (Value.int IntKind.u8 0)) ++ (Value.slice none 0 0 :: Value.int IntKind.i64 0 :: Value.slice none 0 0 :: (Value.int IntKind.i64 0 :: (List.replicate 32 (Value.int IntKind.u8 0) ++ (Value.int IntKind.i64 0 :: List.replicate 32 (Value.int IntKind.u8 0)))))) ++ [Value.int IntKind.i64 0, Value.int IntKind.i64 0, Value.int IntKind.i64 0, Value.string .empty]))] rfl (by kernel_rfl) (by kernel_rfl) (by kernel_rfl)
      (OpenSpec.preRow_of_cond 8 hx rfl (fun k hk => by cases hk) (by kernel_rfl) (laid_met os))) ?_
  intro W base args ds gs before hval hW _ _ _ hL _ _
  exact contract H enc W base args ds gs before hval hW hL

theorem said : Rows.CiteTellsSaid :=
  OpenClaim.holds_of_cond 5 Tryz.f5 rfl rfl rfl rfl rfl rfl rfl ⟨rfl, rfl, rfl, rfl, rfl⟩ rfl rfl rfl rfl rfl (by kernel_rfl) Tryz.func5 (by kernel_rfl)
    (of_decide_eq_true (by kernel_rfl)) (by unfold Func.isWrapper; first | (rw [if_pos (by decide +kernel)]; kernel_rfl) | (rw [if_neg (by decide +kernel)]; exact ⟨rfl, rfl⟩))
    (fun os started H enc _ F => by rw [OpenClaim.pre_eq_preRow]; exact lifted os started H enc F)
theorem plain (f : FuncId) (fn : Func) (hf : Tryz.pinned.checked.prog.funcNamed "scrinium/scriniumlaw19.CiteTells" = some f) (hfn : Tryz.pinned.checked.prog.funcs[f]? = some fn) :
    false = Tryz.pinned.checked.prog.looks [] ∧ ∀ (j : Nat) t, fn.params[j]? = some t → Tryz.pinned.checked.prog.wantsStandIn t = false := by
  obtain rfl : f = 5 := Option.some.inj ((show Tryz.prog.funcNamed "scrinium/scriniumlaw19.CiteTells" = some 5 by kernel_rfl).symm.trans hf) |>.symm
  obtain rfl : fn = Tryz.f5 := (Option.some.inj (Tryz.func5.symm.trans hfn)).symm
  refine ⟨by kernel_rfl, fun j t ht => ?_⟩
  rw [Tryz.params5] at ht
  have hm : t ∈ ([25, 53, 55] : List TypeId) := by simpa using Array.mem_of_getElem? ht
  have hall : (([25, 53, 55] : List TypeId).all fun u => !Tryz.prog.wantsStandIn u) = true := by kernel_rfl
  exact (show Tryz.prog.wantsStandIn t = false by simpa using List.all_eq_true.1 hall t hm)
theorem proved : Rows.CiteTellsCardSaid :=
  Claim7.holds_tied_plain_at .later [] _ _ _ _ said (fun _ h => by cases h) (by kernel_rfl) (fun _ h => by cases h) citeTells_row_tie rfl ⟨rfl, rfl⟩ (by kernel_rfl) rfl plain (by kernel_rfl)

end Go.Proofs.YtcgnjdkennkheaaGreatDoor.citeTells
