/-
  scriniumlaw19.CiteKeys: no condition.
-/
import Derived.Test.YtcgnjdkennkheaaGreatDoorWorldM
import Derived.Test.YtcgnjdkennkheaaGreatDoorLaw
import Derived.Deep.DeepCutAuto
set_option linter.unusedVariables false
set_option maxRecDepth 100000
set_option linter.unusedSimpArgs false
namespace Go.Proofs.YtcgnjdkennkheaaGreatDoor.citeKeys
open Go.ChangeShapes Go.WideShapes Go.ChangeAt Go.RowKit
open Seal (Fz Hd St Ct)
attribute [local go_sem] bs_size bs_toList2 bs_append bs_extract_end bs_extract_begin bs_get wrap64_b grow_cell grow_frozen

/-! ### The walk -/
set_option maxHeartbeats 16000000 in
theorem walk (wd : Wd) (A : Option Addr) (ca : Nat) (q s : Value) (o : List UInt8) (ho : o.length ≤ 9223372036854775807) (w : World) (KW : Keys w) (hd : WdV w wd A ca q s) :
    Calls Tryz.prog 3 #[.agg #[.slice A wd.recs.length ca, q, s, .int .i64 wd.which, .string (bs wd.key)], .string (bs o)] w fun e w' => e = .returned (.bool true) ∧ Ext w w' := by
  obtain ⟨hd1, hd2, hd3, hd4, hd5, hd6, hd7, hd8, hd9⟩ := hd
  by_cases hne : wd.recs = []
  · skip
    have hl0 : wd.recs.length = 0 := by rw [hne]; rfl
    rw [hl0]
    have hZF : (Seal.zF : Fz).root.length = 32 := by rfl
    have hW : Blk (w.alloc (.cells #[.slice A 0 ca, q, s, .int .i64 wd.which, .string (bs wd.key)] 25)) w.heap.size 25 #[.slice A 0 ca, q, s, .int .i64 wd.which, .string (bs wd.key)] := Blk.new w _ _
    have hE : Ext w (w.alloc (.cells #[.slice A 0 ca, q, s, .int .i64 wd.which, .string (bs wd.key)] 25)) := (Ext.refl w).alloc _
    go_enter Tryz.func3, Tryz.ntmps3
    go_wp2_with fail
    change Calls _ _ _ (w.alloc (.cells #[.slice A 0 ca, q, s, .int .i64 wd.which, .string (bs wd.key)] 25)) _
    generalize w.alloc (.cells #[.slice A 0 ca, q, s, .int .i64 wd.which, .string (bs wd.key)] 25) = w0 at *
    refine (awake19_calls _).mono ?_; rintro e w1 ⟨rfl, e1⟩
    replace hW := Blk.below hW e1 (Blk.lt hW)
    replace hE := hE.trans e1
    clear e1
    go_wp2_with (refine stop_load 25 (.tmp 2) rfl ?_)
    refine ⟨?_⟩
    refine wpList_load_row rfl 25 (.tmp 2) rfl w.heap.size (by rfl) 25 _ (0, 0) _ hW Tryz.underlying25 rfl (by kernel_rfl) ?_
    simp only [Act.put, List.setIfInBounds_toArray, List.set_cons_zero, List.set_cons_succ]
    go_wp2_with fail
    refine (cited_none A ca q s wd.which wd.key _).mono ?_; rintro e w4 ⟨rfl, e4⟩
    replace hE := hE.trans e4
    clear e4
    go_wp2_with (refine stop_store 34 (.tmp 6) (.tmp 13) rfl ?_)
    refine ⟨?_⟩
    change wpList _ _ _ _ _ ((w4.alloc (.cells (citeC Seal.zF (.slice none 0 0) 0 (.slice none 0 0) Seal.zH).toArray 34)).alloc (.cells #[.int .i64 0, .int .i64 0, .int .i64 0, .string ⟨#[]⟩] 36))
    have hC0 : Blk ((w4.alloc (.cells (citeC Seal.zF (.slice none 0 0) 0 (.slice none 0 0) Seal.zH).toArray 34)).alloc (.cells #[.int .i64 0, .int .i64 0, .int .i64 0, .string ⟨#[]⟩] 36)) w4.heap.size 34 (citeC Seal.zF (.slice none 0 0) 0 (.slice none 0 0) Seal.zH).toArray := Blk.alloc (Blk.new w4 _ _) _
    have hR0 : RecAt ((w4.alloc (.cells (citeC Seal.zF (.slice none 0 0) 0 (.slice none 0 0) Seal.zH).toArray 34)).alloc (.cells #[.int .i64 0, .int .i64 0, .int .i64 0, .string ⟨#[]⟩] 36)) (w4.heap.size + 1) ⟨0, 0, 0, []⟩ := by
      have := Blk.new (w4.alloc (.cells (citeC Seal.zF (.slice none 0 0) 0 (.slice none 0 0) Seal.zH).toArray 34)) 36 #[.int .i64 0, .int .i64 0, .int .i64 0, .string ⟨#[]⟩]
      rw [alloc_size] at this
      exact this
    have eA : Ext w4 ((w4.alloc (.cells (citeC Seal.zF (.slice none 0 0) 0 (.slice none 0 0) Seal.zH).toArray 34)).alloc (.cells #[.int .i64 0, .int .i64 0, .int .i64 0, .string ⟨#[]⟩] 36)) := ((Ext.refl w4).alloc _).alloc _
    refine wpList_store_row rfl 34 (.tmp 6) (.tmp 13) rfl w4.heap.size (citeC Seal.zF (.slice none 0 0) 0 (.slice none 0 0) Seal.zH).toArray (by rfl) (by rfl) 34 _ hC0 (size_ct (by rfl) (by rfl) (by rfl)) (by simp only [List.size_toArray] <;> (try (rw [citeC_length (by rfl) (by rfl) (by rfl)] <;> (try rfl)))) (all_oneCell_toArray (citeC_one (by rfl) (by rfl))) ?_
    simp only [Act.put, List.setIfInBounds_toArray, List.set_cons_zero, List.set_cons_succ]
    have hC1 : CiteAt ((((w4.alloc (.cells (citeC Seal.zF (.slice none 0 0) 0 (.slice none 0 0) Seal.zH).toArray 34)).alloc (.cells #[.int .i64 0, .int .i64 0, .int .i64 0, .string ⟨#[]⟩] 36))).setRow w4.heap.size (citeC Seal.zF (.slice none 0 0) 0 (.slice none 0 0) Seal.zH).toArray) w4.heap.size Seal.zF (.slice none 0 0) 0 (.slice none 0 0) Seal.zH := Blk.row hC0 _
    have hR1 : RecAt ((((w4.alloc (.cells (citeC Seal.zF (.slice none 0 0) 0 (.slice none 0 0) Seal.zH).toArray 34)).alloc (.cells #[.int .i64 0, .int .i64 0, .int .i64 0, .string ⟨#[]⟩] 36))).setRow w4.heap.size (citeC Seal.zF (.slice none 0 0) 0 (.slice none 0 0) Seal.zH).toArray) (w4.heap.size + 1) ⟨0, 0, 0, []⟩ := Blk.rowFar hR0 (by omega) _
    refine wpList_store_row rfl 36 (.tmp 7) (.tmp 14) rfl (w4.heap.size + 1) #[.int .i64 (⟨0, 0, 0, []⟩ : Rc).win, .int .i64 (⟨0, 0, 0, []⟩ : Rc).idx, .int .i64 (⟨0, 0, 0, []⟩ : Rc).time, .string (bs (⟨0, 0, 0, []⟩ : Rc).pay)] (by rfl) (by rfl) 36 _ hR1 (size_rc (⟨0, 0, 0, []⟩ : Rc)) (by rfl) (by simp [Value.oneCell']) ?_
    simp only [Act.put, List.setIfInBounds_toArray, List.set_cons_zero, List.set_cons_succ]
    have hC : CiteAt (((((w4.alloc (.cells (citeC Seal.zF (.slice none 0 0) 0 (.slice none 0 0) Seal.zH).toArray 34)).alloc (.cells #[.int .i64 0, .int .i64 0, .int .i64 0, .string ⟨#[]⟩] 36))).setRow w4.heap.size (citeC Seal.zF (.slice none 0 0) 0 (.slice none 0 0) Seal.zH).toArray).setRow (w4.heap.size + 1) #[.int .i64 (⟨0, 0, 0, []⟩ : Rc).win, .int .i64 (⟨0, 0, 0, []⟩ : Rc).idx, .int .i64 (⟨0, 0, 0, []⟩ : Rc).time, .string (bs (⟨0, 0, 0, []⟩ : Rc).pay)]) w4.heap.size Seal.zF (.slice none 0 0) 0 (.slice none 0 0) Seal.zH := Blk.rowFar hC1 (by omega) _
    have hR : RecAt (((((w4.alloc (.cells (citeC Seal.zF (.slice none 0 0) 0 (.slice none 0 0) Seal.zH).toArray 34)).alloc (.cells #[.int .i64 0, .int .i64 0, .int .i64 0, .string ⟨#[]⟩] 36))).setRow w4.heap.size (citeC Seal.zF (.slice none 0 0) 0 (.slice none 0 0) Seal.zH).toArray).setRow (w4.heap.size + 1) #[.int .i64 (⟨0, 0, 0, []⟩ : Rc).win, .int .i64 (⟨0, 0, 0, []⟩ : Rc).idx, .int .i64 (⟨0, 0, 0, []⟩ : Rc).time, .string (bs (⟨0, 0, 0, []⟩ : Rc).pay)]) (w4.heap.size + 1) (⟨0, 0, 0, []⟩ : Rc) := Blk.row hR1 _
    have e9 : Ext w4 (((((w4.alloc (.cells (citeC Seal.zF (.slice none 0 0) 0 (.slice none 0 0) Seal.zH).toArray 34)).alloc (.cells #[.int .i64 0, .int .i64 0, .int .i64 0, .string ⟨#[]⟩] 36))).setRow w4.heap.size (citeC Seal.zF (.slice none 0 0) 0 (.slice none 0 0) Seal.zH).toArray).setRow (w4.heap.size + 1) #[.int .i64 (⟨0, 0, 0, []⟩ : Rc).win, .int .i64 (⟨0, 0, 0, []⟩ : Rc).idx, .int .i64 (⟨0, 0, 0, []⟩ : Rc).time, .string (bs (⟨0, 0, 0, []⟩ : Rc).pay)]) := (eA.row (Nat.le_refl _) _).row (Nat.le_succ _) _
    clear hC0 hR0 hC1 hR1 eA
    generalize ((((w4.alloc (.cells (citeC Seal.zF (.slice none 0 0) 0 (.slice none 0 0) Seal.zH).toArray 34)).alloc (.cells #[.int .i64 0, .int .i64 0, .int .i64 0, .string ⟨#[]⟩] 36))).setRow w4.heap.size (citeC Seal.zF (.slice none 0 0) 0 (.slice none 0 0) Seal.zH).toArray).setRow (w4.heap.size + 1) #[.int .i64 (⟨0, 0, 0, []⟩ : Rc).win, .int .i64 (⟨0, 0, 0, []⟩ : Rc).idx, .int .i64 (⟨0, 0, 0, []⟩ : Rc).time, .string (bs (⟨0, 0, 0, []⟩ : Rc).pay)] = w5 at *
    obtain ⟨gC, hgC⟩ : ∃ g, g = w4.heap.size := ⟨_, rfl⟩
    rw [← hgC] at hC hR
    try rw [← hgC]
    clear hgC
    replace hE := hE.trans e9
    go_wp2_with fail
    go_ret
    exact ⟨rfl, hE⟩
  · skip
    have hW : Blk (w.alloc (.cells #[.slice A wd.recs.length ca, q, s, .int .i64 wd.which, .string (bs wd.key)] 25)) w.heap.size 25 #[.slice A wd.recs.length ca, q, s, .int .i64 wd.which, .string (bs wd.key)] := Blk.new w _ _
    have hE : Ext w (w.alloc (.cells #[.slice A wd.recs.length ca, q, s, .int .i64 wd.which, .string (bs wd.key)] 25)) := (Ext.refl w).alloc _
    go_enter Tryz.func3, Tryz.ntmps3
    go_wp2_with fail
    change Calls _ _ _ (w.alloc (.cells #[.slice A wd.recs.length ca, q, s, .int .i64 wd.which, .string (bs wd.key)] 25)) _
    generalize w.alloc (.cells #[.slice A wd.recs.length ca, q, s, .int .i64 wd.which, .string (bs wd.key)] 25) = w0 at *
    refine (awake19_calls _).mono ?_; rintro e w1 ⟨rfl, e1⟩
    replace hW := Blk.below hW e1 (Blk.lt hW)
    replace hE := hE.trans e1
    clear e1
    go_wp2_with (refine stop_load 25 (.tmp 2) rfl ?_)
    refine ⟨?_⟩
    refine wpList_load_row rfl 25 (.tmp 2) rfl w.heap.size (by rfl) 25 _ (0, 0) _ hW Tryz.underlying25 rfl (by kernel_rfl) ?_
    simp only [Act.put, List.setIfInBounds_toArray, List.set_cons_zero, List.set_cons_succ]
    go_wp2_with fail
    refine (cited_more wd hd1 hd2 hd3 hd4 A ca q s hd5 hd6 _ (hd7.below hE (Nat.le_refl _) |>.more hE.size) (hd8.ext hE) (hd9.ext hE) hne).mono ?_; rintro e w4 ⟨P, Q, rfl, hP, hQ, e4⟩
    replace hW := Blk.below hW e4 (Blk.lt hW)
    replace hE := hE.trans e4
    obtain ⟨AP, cP, rfl⟩ : ∃ A c, P = .slice A wd.cite.path.length c := by
      obtain ⟨A, c, e, _⟩ := hP
      exact ⟨A, c, e⟩
    obtain ⟨AQ, cQ, rfl⟩ : ∃ A c, Q = .slice A wd.cite.super.length c := by
      obtain ⟨A, c, e, _⟩ := hQ
      exact ⟨A, c, e⟩
    clear e4
    have hfit := wd.cite_fit
    have hpay := wd.rec_pay hne
    have hright := wd.right hne
    generalize wd.cite = c at *
    generalize wd.rec_ = r at *
    obtain ⟨r1, r2, r3, -, -⟩ := id hfit.1
    clear hW
    go_wp2_with (refine stop_store 34 (.tmp 6) (.tmp 13) rfl ?_)
    refine ⟨?_⟩
    change wpList _ _ _ _ _ ((w4.alloc (.cells (citeC Seal.zF (.slice none 0 0) 0 (.slice none 0 0) Seal.zH).toArray 34)).alloc (.cells #[.int .i64 0, .int .i64 0, .int .i64 0, .string ⟨#[]⟩] 36))
    have hC0 : Blk ((w4.alloc (.cells (citeC Seal.zF (.slice none 0 0) 0 (.slice none 0 0) Seal.zH).toArray 34)).alloc (.cells #[.int .i64 0, .int .i64 0, .int .i64 0, .string ⟨#[]⟩] 36)) w4.heap.size 34 (citeC Seal.zF (.slice none 0 0) 0 (.slice none 0 0) Seal.zH).toArray := Blk.alloc (Blk.new w4 _ _) _
    have hR0 : RecAt ((w4.alloc (.cells (citeC Seal.zF (.slice none 0 0) 0 (.slice none 0 0) Seal.zH).toArray 34)).alloc (.cells #[.int .i64 0, .int .i64 0, .int .i64 0, .string ⟨#[]⟩] 36)) (w4.heap.size + 1) ⟨0, 0, 0, []⟩ := by
      have := Blk.new (w4.alloc (.cells (citeC Seal.zF (.slice none 0 0) 0 (.slice none 0 0) Seal.zH).toArray 34)) 36 #[.int .i64 0, .int .i64 0, .int .i64 0, .string ⟨#[]⟩]
      rw [alloc_size] at this
      exact this
    have eA : Ext w4 ((w4.alloc (.cells (citeC Seal.zF (.slice none 0 0) 0 (.slice none 0 0) Seal.zH).toArray 34)).alloc (.cells #[.int .i64 0, .int .i64 0, .int .i64 0, .string ⟨#[]⟩] 36)) := ((Ext.refl w4).alloc _).alloc _
    refine wpList_store_row rfl 34 (.tmp 6) (.tmp 13) rfl w4.heap.size (citeC c.fz (.slice AP c.path.length cP) c.place (.slice AQ c.super.length cQ) c.hd).toArray (by rfl) (by rfl) 34 _ hC0 (size_ct r1 r2 r3) (by simp only [List.size_toArray] <;> (try (rw [citeC_length r1 r2 r3] <;> (try rfl)))) (all_oneCell_toArray (citeC_one (by rfl) (by rfl))) ?_
    simp only [Act.put, List.setIfInBounds_toArray, List.set_cons_zero, List.set_cons_succ]
    have hC1 : CiteAt ((((w4.alloc (.cells (citeC Seal.zF (.slice none 0 0) 0 (.slice none 0 0) Seal.zH).toArray 34)).alloc (.cells #[.int .i64 0, .int .i64 0, .int .i64 0, .string ⟨#[]⟩] 36))).setRow w4.heap.size (citeC c.fz (.slice AP c.path.length cP) c.place (.slice AQ c.super.length cQ) c.hd).toArray) w4.heap.size c.fz (.slice AP c.path.length cP) c.place (.slice AQ c.super.length cQ) c.hd := Blk.row hC0 _
    have hR1 : RecAt ((((w4.alloc (.cells (citeC Seal.zF (.slice none 0 0) 0 (.slice none 0 0) Seal.zH).toArray 34)).alloc (.cells #[.int .i64 0, .int .i64 0, .int .i64 0, .string ⟨#[]⟩] 36))).setRow w4.heap.size (citeC c.fz (.slice AP c.path.length cP) c.place (.slice AQ c.super.length cQ) c.hd).toArray) (w4.heap.size + 1) ⟨0, 0, 0, []⟩ := Blk.rowFar hR0 (by omega) _
    refine wpList_store_row rfl 36 (.tmp 7) (.tmp 14) rfl (w4.heap.size + 1) #[.int .i64 r.win, .int .i64 r.idx, .int .i64 r.time, .string (bs r.pay)] (by rfl) (by rfl) 36 _ hR1 (size_rc r) (by rfl) (by simp [Value.oneCell']) ?_
    simp only [Act.put, List.setIfInBounds_toArray, List.set_cons_zero, List.set_cons_succ]
    have hC : CiteAt (((((w4.alloc (.cells (citeC Seal.zF (.slice none 0 0) 0 (.slice none 0 0) Seal.zH).toArray 34)).alloc (.cells #[.int .i64 0, .int .i64 0, .int .i64 0, .string ⟨#[]⟩] 36))).setRow w4.heap.size (citeC c.fz (.slice AP c.path.length cP) c.place (.slice AQ c.super.length cQ) c.hd).toArray).setRow (w4.heap.size + 1) #[.int .i64 r.win, .int .i64 r.idx, .int .i64 r.time, .string (bs r.pay)]) w4.heap.size c.fz (.slice AP c.path.length cP) c.place (.slice AQ c.super.length cQ) c.hd := Blk.rowFar hC1 (by omega) _
    have hR : RecAt (((((w4.alloc (.cells (citeC Seal.zF (.slice none 0 0) 0 (.slice none 0 0) Seal.zH).toArray 34)).alloc (.cells #[.int .i64 0, .int .i64 0, .int .i64 0, .string ⟨#[]⟩] 36))).setRow w4.heap.size (citeC c.fz (.slice AP c.path.length cP) c.place (.slice AQ c.super.length cQ) c.hd).toArray).setRow (w4.heap.size + 1) #[.int .i64 r.win, .int .i64 r.idx, .int .i64 r.time, .string (bs r.pay)]) (w4.heap.size + 1) r := Blk.row hR1 _
    have e9 : Ext w4 (((((w4.alloc (.cells (citeC Seal.zF (.slice none 0 0) 0 (.slice none 0 0) Seal.zH).toArray 34)).alloc (.cells #[.int .i64 0, .int .i64 0, .int .i64 0, .string ⟨#[]⟩] 36))).setRow w4.heap.size (citeC c.fz (.slice AP c.path.length cP) c.place (.slice AQ c.super.length cQ) c.hd).toArray).setRow (w4.heap.size + 1) #[.int .i64 r.win, .int .i64 r.idx, .int .i64 r.time, .string (bs r.pay)]) := (eA.row (Nat.le_refl _) _).row (Nat.le_succ _) _
    clear hC0 hR0 hC1 hR1 eA
    generalize ((((w4.alloc (.cells (citeC Seal.zF (.slice none 0 0) 0 (.slice none 0 0) Seal.zH).toArray 34)).alloc (.cells #[.int .i64 0, .int .i64 0, .int .i64 0, .string ⟨#[]⟩] 36))).setRow w4.heap.size (citeC c.fz (.slice AP c.path.length cP) c.place (.slice AQ c.super.length cQ) c.hd).toArray).setRow (w4.heap.size + 1) #[.int .i64 r.win, .int .i64 r.idx, .int .i64 r.time, .string (bs r.pay)] = w5 at *
    obtain ⟨gC, hgC⟩ : ∃ g, g = w4.heap.size := ⟨_, rfl⟩
    rw [← hgC] at hC hR
    try rw [← hgC]
    clear hgC
    replace hP := hP.ext e9
    replace hQ := hQ.ext e9
    replace hE := hE.trans e9
    clear e9
    go_wp2_with fail
    refine (short19_calls o 60 _ ho (by omega)).mono ?_; rintro e w' ⟨rfl, rfl⟩
    obtain ⟨k, hk⟩ : ∃ k, k = o.take 60 := ⟨_, rfl⟩
    have hkl : k.length ≤ 60 := by rw [hk, List.length_take]; omega
    rw [← hk]
    clear hk
    have hb := hright k
    have HR := fun w KW h1 h2 => ctRight_calls k (by omega) r (by omega) c hfit (.slice AP c.path.length cP) (.slice AQ c.super.length cQ) w KW h1 h2
    have HH := fun w => refHeadRight_calls k (by omega) c.hd r2 r3 w
    rw [hb] at HR
    generalize c.hd.rightB k = d at *
    have hdd : (d == d) = true := by simp
    have H1 := Lib.hid HR; have H2 := Lib.hid HH
    clear HR HH hb
    have hlC := hC.lt
    have hlR := Blk.lt hR
    have hhd := hC.head r1
    have hsz := size_rc r
    have hPx : ∀ y : More w5, SlS (grow w5 y) (grow w5 y).heap.size (.slice AP c.path.length cP) c.path := fun y => (hP.ext (grow_ext y)).sl
    have hQx : ∀ y : More w5, SlS (grow w5 y) (grow w5 y).heap.size (.slice AQ c.super.length cQ) c.super := fun y => (hQ.ext (grow_ext y)).sl
    have hKx : ∀ y : More w5, Keys (grow w5 y) := fun y => (KW.ext hE).ext (grow_ext y)
    go_upto_region 6 with fail
    refine region_mix0 (by kernel_rfl) (by kernel_rfl) (fun x0 => ?_)
    iterate 3 (first | (refine mix_quiet (by rfl) (by rfl) (fun K hK => ?_); go_big_quiet_op; refine hK _ ?_; clear hK K) | (refine mix_skip (by rfl) ?_; simp only [Act.put, List.setIfInBounds_toArray, List.set_cons_zero, List.set_cons_succ]))
    refine mix_row (by rfl) (by rfl) 36 (.tmp 7) rfl (gC + 1) (by rfl) _ _ _ hR Tryz.underlying36 rfl hsz ?_
    simp only [Act.put, List.setIfInBounds_toArray, List.set_cons_zero, List.set_cons_succ]
    refine mix_row (by rfl) (by rfl) 34 (.tmp 6) rfl gC (by rfl) _ _ _ hC Tryz.underlying34 rfl (size_ct r1 r2 r3) ?_
    simp only [Act.put, List.setIfInBounds_toArray, List.set_cons_zero, List.set_cons_succ]
    (refine mix_loud (by rfl) (by rfl) (fun K E hK => ?_); go_big_op)
    change Calls _ _ #[.string (bs k), r.v, citeV c.fz (.slice AP c.path.length cP) c.place (.slice AQ c.super.length cQ) c.hd] _ _
    refine (H1.out _ (hKx _) (hPx _) (hQx _)).mono ?_; rintro e w3 ⟨rfl, hd'⟩
    obtain ⟨x1, rfl⟩ := more_ext x0 hd'
    refine hK _ _ ⟨_, rfl⟩ ?_; clear hK K E hd'
    iterate 2 (first | (refine mix_quiet (by rfl) (by rfl) (fun K hK => ?_); go_big_quiet_op; refine hK _ ?_; clear hK K) | (refine mix_skip (by rfl) ?_; simp only [Act.put, List.setIfInBounds_toArray, List.set_cons_zero, List.set_cons_succ]))
    refine mix_mid (by rfl) (by rfl) 32 (.tmp 28) rfl gC 37 (by rfl) (c.hd.cells) _ hhd hlC Tryz.underlying32 rfl ((Seal.size_hd c.hd r2 r3).trans (by rw [List.size_toArray])) ?_
    simp only [Act.put, List.setIfInBounds_toArray, List.set_cons_zero, List.set_cons_succ]
    (refine mix_loud (by rfl) (by rfl) (fun K E hK => ?_); go_big_op)
    change Calls _ _ #[.string (bs k), c.hd.v] _ _
    refine (H2.out _).mono ?_; rintro e w3 ⟨rfl, hd'⟩
    obtain ⟨x2, rfl⟩ := more_ext x1 hd'
    refine hK _ _ ⟨_, rfl⟩ ?_; clear hK K E hd'
    repeat (first | (refine mix_quiet (by rfl) (by rfl) (fun K hK => ?_); go_big_quiet_op; refine hK _ ?_; clear hK K) | (refine mix_skip (by rfl) ?_; simp only [Act.put, List.setIfInBounds_toArray, List.set_cons_zero, List.set_cons_succ]))
    refine mix_nil ?_
    go_wp2_with fail
    go_ret
    exact ⟨rfl, hE.trans (grow_ext _)⟩

set_option maxRecDepth 100000 in
theorem contract (H : Type) (enc : TypeId × Value → H) (W : World) (base : Nat) (args : Array Value) (ds gs : List (DataW H)) (before : List MemPlace)
    (hval0 : ∀ (j : Nat) t v, Tryz.f3.params[j]? = some t → args[j]? = some v → Value.okWide Tryz.prog W .any base t v)
    (hW : DataW.Whole enc Tryz.prog Tryz.f3.params.toList Rows.citeKeysSpec.vars false W args.toList ds gs before) (hL : laidMetH Tryz.prog Rows.citeKeysRow.laid W) :
    Calls Tryz.prog 3 args W fun e W' => ∃ v, e = .returned v ∧ Rows.citeKeysSpec.post enc Tryz.prog Tryz.f3 false true false false W args v W' := by
  have K : Keys W := keys_of hL
  have hval : ∀ (j : Nat) t v, Tryz.f3.params[j]? = some t → args[j]? = some v → Value.okWide Tryz.prog W .any base t v := hval0
  have hW' := hW
  obtain ⟨p, q, hA0, hV, rfl, hfz, hnd⟩ := hW
  have hA : DataW.TrodAll enc Tryz.prog W 0 (fun _ => true) true Tryz.f3.params.toList args.toList ds p := hA0
  rw [Tryz.params3] at hA hval
  obtain ⟨v0, vs0, d0, ds0, p0, q0, hargs, rfl, rfl, hx0, r0⟩ := trodAll_cons hA
  obtain ⟨v1, vs1, d1, ds1, p1, q1, rfl, rfl, rfl, hx1, r1⟩ := trodAll_cons r0
  obtain ⟨rfl, rfl, rfl⟩ := trodAll_nil r1
  obtain rfl : args = #[v0, v1] := by cases args; simp_all
  obtain ⟨rfl, rfl⟩ := trodVars_none hV
  obtain ⟨d, Ad, cd, qd, sd, rfl, hd⟩ := op_wd (hval 0 25 v0 rfl rfl) (tr_of hx0)
  obtain ⟨o, rfl, ho⟩ := op_str (hval 1 9 v1 rfl rfl) (tr_of hx1)
  refine (walk d Ad cd qd sd o ho W K hd).mono fun e W' ⟨he, hg⟩ => ?_
  subst he
  exact ⟨_, rfl, law_post hW' rfl rfl (by kernel_rfl) rfl rfl rfl hg⟩

theorem laid_met (os : Os) : laidMet Tryz.prog Rows.citeKeysRow.laid ((keysWorld os).forCall (fun _ _ => 0) ⟨#[], #[.agg #[.slice none 0 0, .slice none 0 0, .slice none 0 0, .int .i64 0, .string .empty], .string .empty], []⟩).memory :=
  laidMet_of_run' 8 (by kernel_rfl) (by kernel_rfl)
theorem reads (os : Os) {H : Type} (enc : TypeId × Value → H) : ∃ x, DataW.whole enc Tryz.prog ((keysWorld os).forCall (fun _ _ => 0) ⟨#[], #[.agg #[.slice none 0 0, .slice none 0 0, .slice none 0 0, .int .i64 0, .string .empty], .string .empty], []⟩).memory Tryz.f3.params.toList Rows.citeKeysSpec.vars false (#[.agg #[.slice none 0 0, .slice none 0 0, .slice none 0 0, .int .i64 0, .string .empty], .string .empty] : Array Value).toList 8 = some x :=
  Option.isSome_iff_exists.1 (by kernel_rfl)
set_option maxRecDepth 100000 in
theorem lifted (os : Os) (started : os.Started) (H : Type) (enc : TypeId × Value → H) (F : Stop.Interp) :
    ReturnsInHanded {} Tryz.checked os 3 .any ((OpenSpec.ofChange Rows.citeKeysSpec).preRow enc Tryz.prog Tryz.f3 Rows.citeKeysRow.domain false Rows.citeKeysRow.laid) (((OpenSpec.ofChange Rows.citeKeysSpec).at F).post enc Tryz.prog Tryz.f3 false true false false) := by
  obtain ⟨x, hx⟩ := reads os enc
  refine returnsInHanded_of_row (C := Tryz.checked) (s := OpenSpec.ofChange Rows.citeKeysSpec) own_ started (by kernel_rfl) Tryz.func3
    (witness_row_at (enc := enc) (C := Tryz.checked) false (keysWorld os) #[.agg #[.slice none 0 0, .slice none 0 0, .slice none 0 0, .int .i64 0, .string .empty], .string .empty] rfl (by kernel_rfl) (by kernel_rfl) (by kernel_rfl)
      (OpenSpec.preRow_of_cond 8 hx rfl (fun k hk => by cases hk) (by kernel_rfl) (laid_met os))) ?_
  intro W base args ds gs before hval hW _ _ _ hL _ _
  exact contract H enc W base args ds gs before hval hW hL

theorem said : Rows.CiteKeysSaid :=
  OpenClaim.holds_of_cond 3 Tryz.f3 rfl rfl rfl rfl rfl rfl rfl ⟨rfl, rfl, rfl, rfl, rfl⟩ rfl rfl rfl rfl rfl (by kernel_rfl) Tryz.func3 (by kernel_rfl)
    (of_decide_eq_true (by kernel_rfl)) (by unfold Func.isWrapper; first | (rw [if_pos (by decide +kernel)]; kernel_rfl) | (rw [if_neg (by decide +kernel)]; exact ⟨rfl, rfl⟩))
    (fun os started H enc _ F => by rw [OpenClaim.pre_eq_preRow]; exact lifted os started H enc F)
theorem plain (f : FuncId) (fn : Func) (hf : Tryz.pinned.checked.prog.funcNamed "scrinium/scriniumlaw19.CiteKeys" = some f) (hfn : Tryz.pinned.checked.prog.funcs[f]? = some fn) :
    false = Tryz.pinned.checked.prog.looks [] ∧ ∀ (j : Nat) t, fn.params[j]? = some t → Tryz.pinned.checked.prog.wantsStandIn t = false := by
  obtain rfl : f = 3 := Option.some.inj ((show Tryz.prog.funcNamed "scrinium/scriniumlaw19.CiteKeys" = some 3 by kernel_rfl).symm.trans hf) |>.symm
  obtain rfl : fn = Tryz.f3 := (Option.some.inj (Tryz.func3.symm.trans hfn)).symm
  refine ⟨by kernel_rfl, fun j t ht => ?_⟩
  rw [Tryz.params3] at ht
  have hm : t ∈ ([25, 9] : List TypeId) := by simpa using Array.mem_of_getElem? ht
  have hall : (([25, 9] : List TypeId).all fun u => !Tryz.prog.wantsStandIn u) = true := by kernel_rfl
  exact (show Tryz.prog.wantsStandIn t = false by simpa using List.all_eq_true.1 hall t hm)
theorem proved : Rows.CiteKeysCardSaid :=
  Claim7.holds_tied_plain_at .later [] _ _ _ _ said (fun _ h => by cases h) (by kernel_rfl) (fun _ h => by cases h) citeKeys_row_tie rfl ⟨rfl, rfl⟩ (by kernel_rfl) rfl plain (by kernel_rfl)

end Go.Proofs.YtcgnjdkennkheaaGreatDoor.citeKeys
