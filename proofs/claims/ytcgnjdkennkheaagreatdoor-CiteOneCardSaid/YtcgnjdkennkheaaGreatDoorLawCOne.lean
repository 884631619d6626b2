/-
  scriniumlaw19.CiteOne: no condition.
-/
import Derived.Test.YtcgnjdkennkheaaGreatDoorWorldM
import Derived.Test.YtcgnjdkennkheaaGreatDoorLaw
import Derived.Deep.DeepCutAuto
set_option linter.unusedVariables false
set_option maxRecDepth 100000
set_option linter.unusedSimpArgs false
namespace Go.Proofs.YtcgnjdkennkheaaGreatDoor.citeOne
open Go.ChangeShapes Go.WideShapes Go.ChangeAt Go.RowKit
open Seal (Fz Hd St Ct)
attribute [local go_sem] bs_size bs_toList2 bs_append bs_extract_end bs_extract_begin bs_get wrap64_b grow_cell grow_frozen

/-! ### The walk -/
theorem wd_may (wd : Wd) (h : wd.recs ≠ []) : wd.cite.may := by
  have h1 := pathS_le wd.leaves wd.k
  have h2 := pathS_le (leavesF wd.fl) wd.place
  have h3 := wd.leaves_length
  have h4 := wd.rl_length
  have h5 := leavesF_length wd.fl
  have h6 := wd.fl_le
  have h7 := wd.place_lt
  refine ⟨wd.fz_may h, ?_, ?_, ?_, ?_, ?_⟩
  · show Seal.Hd.may (Seal.Hd.sign (wd.key.take 40) (wd.fl.length : Int) (rootS (leavesF wd.fl)) 99)
    unfold Seal.Hd.may Seal.Hd.sign
    simp only
    omega
  · show (0 : Int) ≤ (wd.place : Int)
    omega
  · show (wd.place : Int) ≤ _
    omega
  · show (pathS wd.leaves wd.k).length ≤ _
    omega
  · show (pathS (leavesF wd.fl) wd.place).length ≤ _
    omega
theorem wd_signed (wd : Wd) (h : wd.recs ≠ []) : wd.cite.hd.rightB (wd.key.take 40) = true := by
  have h1 := (hd_right (wd.key.take 40) (wd.fl.length : Int) 99 (rootS (leavesF wd.fl))).1
  have h2 : Seal.Hd.may (Seal.Hd.sign (wd.key.take 40) (wd.fl.length : Int) (rootS (leavesF wd.fl)) 99) := (wd_may wd h).2.1
  show Seal.Hd.rightB (wd.key.take 40) (Seal.Hd.sign (wd.key.take 40) (wd.fl.length : Int) (rootS (leavesF wd.fl)) 99) = true
  rw [h1]
  simpa using h2
theorem zero_bs : (⟨#[0]⟩ : ByteArray) = bs [0] := rfl
attribute [local go_sem] zero_bs
theorem cell_ext {w w' : World} (e : Ext w w') {p : Addr} {v : Value} (h : w.cell? p = some v) : w'.cell? p = some v := by
  have hb := World.block_lt_of_cell? w p h
  exact (World.cell?_of_block (e.block p.block hb)).trans h
theorem fz_outB_le (f : Fz) (hf : f.root.length = 32) : f.outB.length ≤ 70 := by
  unfold Seal.Fz.outB
  split
  · exact Seal.Fz.bytes_length f hf
  · simp
set_option maxHeartbeats 16000000 in
theorem walk (wd : Wd) (A : Option Addr) (ca : Nat) (q s : Value) (a : Ct) (aP aQ : Value) (y : Rc) (hao : a.ok) (hy2 : y.pay.length ≤ 9223372036854775807) (w : World) (KW : Keys w) (hd : WdV w wd A ca q s) (haP : SlS w w.heap.size aP a.path) (haQ : SlS w w.heap.size aQ a.super) :
    Calls Tryz.prog 6 #[.agg #[.slice A wd.recs.length ca, q, s, .int .i64 wd.which, .string (bs wd.key)], .agg (citeC a.fz aP a.place aQ a.hd ++ y.cells).toArray] w fun e w' => e = .returned (.bool true) ∧ Ext w w' := by
  obtain ⟨hd1, hd2, hd3, hd4, hd5, hd6, hd7, hd8, hd9⟩ := hd
  by_cases hne : wd.recs = []
  · skip
    have hl0 : wd.recs.length = 0 := by rw [hne]; rfl
    rw [hl0]
    have hZF : (Seal.zF : Fz).root.length = 32 := by rfl
    have hW : Blk ((w.alloc (.cells #[.slice A 0 ca, q, s, .int .i64 wd.which, .string (bs wd.key)] 25)).alloc (.cells (citeC a.fz aP a.place aQ a.hd ++ y.cells).toArray 55)) w.heap.size 25 #[.slice A 0 ca, q, s, .int .i64 wd.which, .string (bs wd.key)] := Blk.alloc (Blk.new w _ _) _
    have hRaw : RawAt ((w.alloc (.cells #[.slice A 0 ca, q, s, .int .i64 wd.which, .string (bs wd.key)] 25)).alloc (.cells (citeC a.fz aP a.place aQ a.hd ++ y.cells).toArray 55)) (w.heap.size + 1) a aP aQ y := by
      have := Blk.new (w.alloc (.cells #[.slice A 0 ca, q, s, .int .i64 wd.which, .string (bs wd.key)] 25)) 55 (citeC a.fz aP a.place aQ a.hd ++ y.cells).toArray
      rw [alloc_size] at this
      exact this
    have hE : Ext w ((w.alloc (.cells #[.slice A 0 ca, q, s, .int .i64 wd.which, .string (bs wd.key)] 25)).alloc (.cells (citeC a.fz aP a.place aQ a.hd ++ y.cells).toArray 55)) := ((Ext.refl w).alloc _).alloc _
    go_enter Tryz.func6, Tryz.ntmps6
    go_wp2_with fail
    change Calls _ _ _ ((w.alloc (.cells #[.slice A 0 ca, q, s, .int .i64 wd.which, .string (bs wd.key)] 25)).alloc (.cells (citeC a.fz aP a.place aQ a.hd ++ y.cells).toArray 55)) _
    generalize ((w.alloc (.cells #[.slice A 0 ca, q, s, .int .i64 wd.which, .string (bs wd.key)] 25)).alloc (.cells (citeC a.fz aP a.place aQ a.hd ++ y.cells).toArray 55)) = w0 at *
    refine (awake19_calls _).mono ?_; rintro e w1 ⟨rfl, e1⟩
    replace hW := Blk.below hW e1 (Blk.lt hW)
    replace hRaw := hRaw.ext e1
    replace hE := hE.trans e1
    clear e1
    go_wp2_with (refine stop_load 25 (.tmp 2) rfl ?_)
    refine ⟨?_⟩
    refine wpList_load_row rfl 25 (.tmp 2) rfl w.heap.size (by rfl) 25 _ (0, 0) _ hW Tryz.underlying25 rfl (by kernel_rfl) ?_
    simp only [Act.put, List.setIfInBounds_toArray, List.set_cons_zero, List.set_cons_succ]
    go_wp2_with fail
    refine (cited_none A ca q s wd.which wd.key _).mono ?_; rintro e w4 ⟨rfl, e4⟩
    replace hE := hE.trans e4
    clear e4
    go_wp2_with (refine stop_store 34 (.tmp 6) (.tmp 26) rfl ?_)
    refine ⟨?_⟩
    change wpList _ _ _ _ _ ((w4.alloc (.cells (citeC Seal.zF (.slice none 0 0) 0 (.slice none 0 0) Seal.zH).toArray 34)).alloc (.cells #[.int .i64 0, .int .i64 0, .int .i64 0, .string ⟨#[]⟩] 36))
    have hC0 : Blk ((w4.alloc (.cells (citeC Seal.zF (.slice none 0 0) 0 (.slice none 0 0) Seal.zH).toArray 34)).alloc (.cells #[.int .i64 0, .int .i64 0, .int .i64 0, .string ⟨#[]⟩] 36)) w4.heap.size 34 (citeC Seal.zF (.slice none 0 0) 0 (.slice none 0 0) Seal.zH).toArray := Blk.alloc (Blk.new w4 _ _) _
    have hR0 : RecAt ((w4.alloc (.cells (citeC Seal.zF (.slice none 0 0) 0 (.slice none 0 0) Seal.zH).toArray 34)).alloc (.cells #[.int .i64 0, .int .i64 0, .int .i64 0, .string ⟨#[]⟩] 36)) (w4.heap.size + 1) ⟨0, 0, 0, []⟩ := by
      have := Blk.new (w4.alloc (.cells (citeC Seal.zF (.slice none 0 0) 0 (.slice none 0 0) Seal.zH).toArray 34)) 36 #[.int .i64 0, .int .i64 0, .int .i64 0, .string ⟨#[]⟩]
      rw [alloc_size] at this
      exact this
    have eA : Ext w4 ((w4.alloc (.cells (citeC Seal.zF (.slice none 0 0) 0 (.slice none 0 0) Seal.zH).toArray 34)).alloc (.cells #[.int .i64 0, .int .i64 0, .int .i64 0, .string ⟨#[]⟩] 36)) := ((Ext.refl w4).alloc _).alloc _
    refine wpList_store_row rfl 34 (.tmp 6) (.tmp 26) rfl w4.heap.size (citeC Seal.zF (.slice none 0 0) 0 (.slice none 0 0) Seal.zH).toArray (by rfl) (by rfl) 34 _ hC0 (size_ct (by rfl) (by rfl) (by rfl)) (by simp only [List.size_toArray] <;> (try (rw [citeC_length (by rfl) (by rfl) (by rfl)] <;> (try rfl)))) (all_oneCell_toArray (citeC_one (by rfl) (by rfl))) ?_
    simp only [Act.put, List.setIfInBounds_toArray, List.set_cons_zero, List.set_cons_succ]
    have hC1 : CiteAt ((((w4.alloc (.cells (citeC Seal.zF (.slice none 0 0) 0 (.slice none 0 0) Seal.zH).toArray 34)).alloc (.cells #[.int .i64 0, .int .i64 0, .int .i64 0, .string ⟨#[]⟩] 36))).setRow w4.heap.size (citeC Seal.zF (.slice none 0 0) 0 (.slice none 0 0) Seal.zH).toArray) w4.heap.size Seal.zF (.slice none 0 0) 0 (.slice none 0 0) Seal.zH := Blk.row hC0 _
    have hR1 : RecAt ((((w4.alloc (.cells (citeC Seal.zF (.slice none 0 0) 0 (.slice none 0 0) Seal.zH).toArray 34)).alloc (.cells #[.int .i64 0, .int .i64 0, .int .i64 0, .string ⟨#[]⟩] 36))).setRow w4.heap.size (citeC Seal.zF (.slice none 0 0) 0 (.slice none 0 0) Seal.zH).toArray) (w4.heap.size + 1) ⟨0, 0, 0, []⟩ := Blk.rowFar hR0 (by omega) _
    refine wpList_store_row rfl 36 (.tmp 7) (.tmp 27) rfl (w4.heap.size + 1) #[.int .i64 (⟨0, 0, 0, []⟩ : Rc).win, .int .i64 (⟨0, 0, 0, []⟩ : Rc).idx, .int .i64 (⟨0, 0, 0, []⟩ : Rc).time, .string (bs (⟨0, 0, 0, []⟩ : Rc).pay)] (by rfl) (by rfl) 36 _ hR1 (size_rc (⟨0, 0, 0, []⟩ : Rc)) (by rfl) (by simp [Value.oneCell']) ?_
    simp only [Act.put, List.setIfInBounds_toArray, List.set_cons_zero, List.set_cons_succ]
    have hC : CiteAt (((((w4.alloc (.cells (citeC Seal.zF (.slice none 0 0) 0 (.slice none 0 0) Seal.zH).toArray 34)).alloc (.cells #[.int .i64 0, .int .i64 0, .int .i64 0, .string ⟨#[]⟩] 36))).setRow w4.heap.size (citeC Seal.zF (.slice none 0 0) 0 (.slice none 0 0) Seal.zH).toArray).setRow (w4.heap.size + 1) #[.int .i64 (⟨0, 0, 0, []⟩ : Rc).win, .int .i64 (⟨0, 0, 0, []⟩ : Rc).idx, .int .i64 (⟨0, 0, 0, []⟩ : Rc).time, .string (bs (⟨0, 0, 0, []⟩ : Rc).pay)]) w4.heap.size Seal.zF (.slice none 0 0) 0 (.slice none 0 0) Seal.zH := Blk.rowFar hC1 (by omega) _
    have hR : RecAt (((((w4.alloc (.cells (citeC Seal.zF (.slice none 0 0) 0 (.slice none 0 0) Seal.zH).toArray 34)).alloc (.cells #[.int .i64 0, .int .i64 0, .int .i64 0, .string ⟨#[]⟩] 36))).setRow w4.heap.size (citeC Seal.zF (.slice none 0 0) 0 (.slice none 0 0) Seal.zH).toArray).setRow (w4.heap.size + 1) #[.int .i64 (⟨0, 0, 0, []⟩ : Rc).win, .int .i64 (⟨0, 0, 0, []⟩ : Rc).idx, .int .i64 (⟨0, 0, 0, []⟩ : Rc).time, .string (bs (⟨0, 0, 0, []⟩ : Rc).pay)]) (w4.heap.size + 1) (⟨0, 0, 0, []⟩ : Rc) := Blk.row hR1 _
    have e9 : Ext w4 (((((w4.alloc (.cells (citeC Seal.zF (.slice none 0 0) 0 (.slice none 0 0) Seal.zH).toArray 34)).alloc (.cells #[.int .i64 0, .int .i64 0, .int .i64 0, .string ⟨#[]⟩] 36))).setRow w4.heap.size (citeC Seal.zF (.slice none 0 0) 0 (.slice none 0 0) Seal.zH).toArray).setRow (w4.heap.size + 1) #[.int .i64 (⟨0, 0, 0, []⟩ : Rc).win, .int .i64 (⟨0, 0, 0, []⟩ : Rc).idx, .int .i64 (⟨0, 0, 0, []⟩ : Rc).time, .string (bs (⟨0, 0, 0, []⟩ : Rc).pay)]) := (eA.row (Nat.le_refl _) _).row (Nat.le_succ _) _
    clear hC0 hR0 hC1 hR1 eA
    generalize ((((w4.alloc (.cells (citeC Seal.zF (.slice none 0 0) 0 (.slice none 0 0) Seal.zH).toArray 34)).alloc (.cells #[.int .i64 0, .int .i64 0, .int .i64 0, .string ⟨#[]⟩] 36))).setRow w4.heap.size (citeC Seal.zF (.slice none 0 0) 0 (.slice none 0 0) Seal.zH).toArray).setRow (w4.heap.size + 1) #[.int .i64 (⟨0, 0, 0, []⟩ : Rc).win, .int .i64 (⟨0, 0, 0, []⟩ : Rc).idx, .int .i64 (⟨0, 0, 0, []⟩ : Rc).time, .string (bs (⟨0, 0, 0, []⟩ : Rc).pay)] = w5 at *
    obtain ⟨gC, hgC⟩ : ∃ g, g = w4.heap.size := ⟨_, rfl⟩
    rw [← hgC] at hC hR
    try rw [← hgC]
    clear hgC
    replace hE := hE.trans e9
    go_wp2_with fail
    go_ret
    exact ⟨rfl, hE⟩
  · skip
    have hW : Blk ((w.alloc (.cells #[.slice A wd.recs.length ca, q, s, .int .i64 wd.which, .string (bs wd.key)] 25)).alloc (.cells (citeC a.fz aP a.place aQ a.hd ++ y.cells).toArray 55)) w.heap.size 25 #[.slice A wd.recs.length ca, q, s, .int .i64 wd.which, .string (bs wd.key)] := Blk.alloc (Blk.new w _ _) _
    have hRaw : RawAt ((w.alloc (.cells #[.slice A wd.recs.length ca, q, s, .int .i64 wd.which, .string (bs wd.key)] 25)).alloc (.cells (citeC a.fz aP a.place aQ a.hd ++ y.cells).toArray 55)) (w.heap.size + 1) a aP aQ y := by
      have := Blk.new (w.alloc (.cells #[.slice A wd.recs.length ca, q, s, .int .i64 wd.which, .string (bs wd.key)] 25)) 55 (citeC a.fz aP a.place aQ a.hd ++ y.cells).toArray
      rw [alloc_size] at this
      exact this
    have hE : Ext w ((w.alloc (.cells #[.slice A wd.recs.length ca, q, s, .int .i64 wd.which, .string (bs wd.key)] 25)).alloc (.cells (citeC a.fz aP a.place aQ a.hd ++ y.cells).toArray 55)) := ((Ext.refl w).alloc _).alloc _
    go_enter Tryz.func6, Tryz.ntmps6
    go_wp2_with fail
    change Calls _ _ _ ((w.alloc (.cells #[.slice A wd.recs.length ca, q, s, .int .i64 wd.which, .string (bs wd.key)] 25)).alloc (.cells (citeC a.fz aP a.place aQ a.hd ++ y.cells).toArray 55)) _
    generalize ((w.alloc (.cells #[.slice A wd.recs.length ca, q, s, .int .i64 wd.which, .string (bs wd.key)] 25)).alloc (.cells (citeC a.fz aP a.place aQ a.hd ++ y.cells).toArray 55)) = w0 at *
    refine (awake19_calls _).mono ?_; rintro e w1 ⟨rfl, e1⟩
    replace hW := Blk.below hW e1 (Blk.lt hW)
    replace hRaw := hRaw.ext e1
    replace hE := hE.trans e1
    clear e1
    go_wp2_with (refine stop_load 25 (.tmp 2) rfl ?_)
    refine ⟨?_⟩
    refine wpList_load_row rfl 25 (.tmp 2) rfl w.heap.size (by rfl) 25 _ (0, 0) _ hW Tryz.underlying25 rfl (by kernel_rfl) ?_
    simp only [Act.put, List.setIfInBounds_toArray, List.set_cons_zero, List.set_cons_succ]
    go_wp2_with fail
    refine (cited_more wd hd1 hd2 hd3 hd4 A ca q s hd5 hd6 _ (hd7.below hE (Nat.le_refl _) |>.more hE.size) (hd8.ext hE) (hd9.ext hE) hne).mono ?_; rintro e w4 ⟨P, Q, rfl, hP, hQ, e4⟩
    replace hW := Blk.below hW e4 (Blk.lt hW)
    replace hE := hE.trans e4
    obtain ⟨AP, cP, rfl⟩ : ∃ A c, P = .slice A wd.cite.path.length c := by
      obtain ⟨A, c, e, _⟩ := hP
      exact ⟨A, c, e⟩
    obtain ⟨AQ, cQ, rfl⟩ : ∃ A c, Q = .slice A wd.cite.super.length c := by
      obtain ⟨A, c, e, _⟩ := hQ
      exact ⟨A, c, e⟩
    replace hRaw := hRaw.ext e4
    clear e4
    have hsg := wd_signed wd hne
    have hmay := wd_may wd hne
    obtain ⟨kk, hkk⟩ : ∃ k, k = wd.key.take 40 := ⟨_, rfl⟩
    have hkl : kk.length ≤ 40 := by rw [hkk, List.length_take]; omega
    rw [← hkk] at hsg
    have Hkk := Lib.hid hkk
    clear hkk
    have hfit := wd.cite_fit
    have hpay := wd.rec_pay hne
    have hright := wd.right hne
    generalize wd.cite = c at *
    generalize wd.rec_ = r at *
    obtain ⟨r1, r2, r3, -, -⟩ := id hfit.1
    have hrk : rightCB kk r c = true := by rw [hright kk]; exact hsg
    have Hrk := Lib.hid hrk; have Hmay := Lib.hid hmay
    clear hright hsg hrk hmay
    go_wp2_with (refine stop_store 34 (.tmp 6) (.tmp 26) rfl ?_)
    refine ⟨?_⟩
    change wpList _ _ _ _ _ ((w4.alloc (.cells (citeC Seal.zF (.slice none 0 0) 0 (.slice none 0 0) Seal.zH).toArray 34)).alloc (.cells #[.int .i64 0, .int .i64 0, .int .i64 0, .string ⟨#[]⟩] 36))
    have hC0 : Blk ((w4.alloc (.cells (citeC Seal.zF (.slice none 0 0) 0 (.slice none 0 0) Seal.zH).toArray 34)).alloc (.cells #[.int .i64 0, .int .i64 0, .int .i64 0, .string ⟨#[]⟩] 36)) w4.heap.size 34 (citeC Seal.zF (.slice none 0 0) 0 (.slice none 0 0) Seal.zH).toArray := Blk.alloc (Blk.new w4 _ _) _
    have hR0 : RecAt ((w4.alloc (.cells (citeC Seal.zF (.slice none 0 0) 0 (.slice none 0 0) Seal.zH).toArray 34)).alloc (.cells #[.int .i64 0, .int .i64 0, .int .i64 0, .string ⟨#[]⟩] 36)) (w4.heap.size + 1) ⟨0, 0, 0, []⟩ := by
      have := Blk.new (w4.alloc (.cells (citeC Seal.zF (.slice none 0 0) 0 (.slice none 0 0) Seal.zH).toArray 34)) 36 #[.int .i64 0, .int .i64 0, .int .i64 0, .string ⟨#[]⟩]
      rw [alloc_size] at this
      exact this
    have eA : Ext w4 ((w4.alloc (.cells (citeC Seal.zF (.slice none 0 0) 0 (.slice none 0 0) Seal.zH).toArray 34)).alloc (.cells #[.int .i64 0, .int .i64 0, .int .i64 0, .string ⟨#[]⟩] 36)) := ((Ext.refl w4).alloc _).alloc _
    refine wpList_store_row rfl 34 (.tmp 6) (.tmp 26) rfl w4.heap.size (citeC c.fz (.slice AP c.path.length cP) c.place (.slice AQ c.super.length cQ) c.hd).toArray (by rfl) (by rfl) 34 _ hC0 (size_ct r1 r2 r3) (by simp only [List.size_toArray] <;> (try (rw [citeC_length r1 r2 r3] <;> (try rfl)))) (all_oneCell_toArray (citeC_one (by rfl) (by rfl))) ?_
    simp only [Act.put, List.setIfInBounds_toArray, List.set_cons_zero, List.set_cons_succ]
    have hC1 : CiteAt ((((w4.alloc (.cells (citeC Seal.zF (.slice none 0 0) 0 (.slice none 0 0) Seal.zH).toArray 34)).alloc (.cells #[.int .i64 0, .int .i64 0, .int .i64 0, .string ⟨#[]⟩] 36))).setRow w4.heap.size (citeC c.fz (.slice AP c.path.length cP) c.place (.slice AQ c.super.length cQ) c.hd).toArray) w4.heap.size c.fz (.slice AP c.path.length cP) c.place (.slice AQ c.super.length cQ) c.hd := Blk.row hC0 _
    have hR1 : RecAt ((((w4.alloc (.cells (citeC Seal.zF (.slice none 0 0) 0 (.slice none 0 0) Seal.zH).toArray 34)).alloc (.cells #[.int .i64 0, .int .i64 0, .int .i64 0, .string ⟨#[]⟩] 36))).setRow w4.heap.size (citeC c.fz (.slice AP c.path.length cP) c.place (.slice AQ c.super.length cQ) c.hd).toArray) (w4.heap.size + 1) ⟨0, 0, 0, []⟩ := Blk.rowFar hR0 (by omega) _
    refine wpList_store_row rfl 36 (.tmp 7) (.tmp 27) rfl (w4.heap.size + 1) #[.int .i64 r.win, .int .i64 r.idx, .int .i64 r.time, .string (bs r.pay)] (by rfl) (by rfl) 36 _ hR1 (size_rc r) (by rfl) (by simp [Value.oneCell']) ?_
    simp only [Act.put, List.setIfInBounds_toArray, List.set_cons_zero, List.set_cons_succ]
    have hC : CiteAt (((((w4.alloc (.cells (citeC Seal.zF (.slice none 0 0) 0 (.slice none 0 0) Seal.zH).toArray 34)).alloc (.cells #[.int .i64 0, .int .i64 0, .int .i64 0, .string ⟨#[]⟩] 36))).setRow w4.heap.size (citeC c.fz (.slice AP c.path.length cP) c.place (.slice AQ c.super.length cQ) c.hd).toArray).setRow (w4.heap.size + 1) #[.int .i64 r.win, .int .i64 r.idx, .int .i64 r.time, .string (bs r.pay)]) w4.heap.size c.fz (.slice AP c.path.length cP) c.place (.slice AQ c.super.length cQ) c.hd := Blk.rowFar hC1 (by omega) _
    have hR : RecAt (((((w4.alloc (.cells (citeC Seal.zF (.slice none 0 0) 0 (.slice none 0 0) Seal.zH).toArray 34)).alloc (.cells #[.int .i64 0, .int .i64 0, .int .i64 0, .string ⟨#[]⟩] 36))).setRow w4.heap.size (citeC c.fz (.slice AP c.path.length cP) c.place (.slice AQ c.super.length cQ) c.hd).toArray).setRow (w4.heap.size + 1) #[.int .i64 r.win, .int .i64 r.idx, .int .i64 r.time, .string (bs r.pay)]) (w4.heap.size + 1) r := Blk.row hR1 _
    have e9 : Ext w4 (((((w4.alloc (.cells (citeC Seal.zF (.slice none 0 0) 0 (.slice none 0 0) Seal.zH).toArray 34)).alloc (.cells #[.int .i64 0, .int .i64 0, .int .i64 0, .string ⟨#[]⟩] 36))).setRow w4.heap.size (citeC c.fz (.slice AP c.path.length cP) c.place (.slice AQ c.super.length cQ) c.hd).toArray).setRow (w4.heap.size + 1) #[.int .i64 r.win, .int .i64 r.idx, .int .i64 r.time, .string (bs r.pay)]) := (eA.row (Nat.le_refl _) _).row (Nat.le_succ _) _
    clear hC0 hR0 hC1 hR1 eA
    generalize ((((w4.alloc (.cells (citeC Seal.zF (.slice none 0 0) 0 (.slice none 0 0) Seal.zH).toArray 34)).alloc (.cells #[.int .i64 0, .int .i64 0, .int .i64 0, .string ⟨#[]⟩] 36))).setRow w4.heap.size (citeC c.fz (.slice AP c.path.length cP) c.place (.slice AQ c.super.length cQ) c.hd).toArray).setRow (w4.heap.size + 1) #[.int .i64 r.win, .int .i64 r.idx, .int .i64 r.time, .string (bs r.pay)] = w5 at *
    obtain ⟨gC, hgC⟩ : ∃ g, g = w4.heap.size := ⟨_, rfl⟩
    rw [← hgC] at hC hR
    try rw [← hgC]
    clear hgC
    replace hP := hP.ext e9
    replace hQ := hQ.ext e9
    replace hW := Blk.below hW e9 (Blk.lt hW)
    replace hRaw := hRaw.ext e9
    replace hE := hE.trans e9
    clear e9
    have hXP : SlS w5 w5.heap.size aP a.path := haP.ext hE
    have hXQ : SlS w5 w5.heap.size aQ a.super := haQ.ext hE
    clear haP haQ
    have k4 := Blk.cell hW 4
    have k4' : w5.cell? ⟨w.heap.size, 4, none⟩ = some (.string (bs wd.key)) := k4
    clear k4 hW
    go_wp2_with fail
    refine (short19_calls wd.key 40 _ hd2 (by omega)).mono ?_; rw [← Hkk.out]; rintro e w' ⟨rfl, rfl⟩
    clear k4'
    obtain ⟨gX, hgX⟩ : ∃ g, g = w.heap.size + 1 := ⟨_, rfl⟩
    rw [← hgX] at hRaw
    try rw [← hgX]
    clear hgX
    have hxo := cut70_ok a hao
    have hx1 : (cut70 a).path.length ≤ 70 := by unfold cut70; simp only [List.length_take]; omega
    have hx2 : (cut70 a).super.length ≤ 70 := by unfold cut70; simp only [List.length_take]; omega
    have HSm := Lib.hid (fun w T hT h1 h2 => small19_calls a hao aP aQ w T hT h1 h2)
    obtain ⟨a1, a2, a3, -, -⟩ := hao
    go_wp2_with (refine stop_load 34 (.tmp 35) rfl ?_)
    refine ⟨?_⟩
    have hmd := hRaw.cite
    refine wpList_load_mid rfl 34 (.tmp 35) rfl gX 0 (by rfl) (citeC a.fz aP a.place aQ a.hd) _ hmd Tryz.underlying34 rfl ((size_ct a1 a2 a3).trans (by rw [List.size_toArray])) ?_
    simp only [Act.put, List.setIfInBounds_toArray, List.set_cons_zero, List.set_cons_succ]
    clear hmd
    go_wp2_with fail
    change Calls _ _ #[citeV a.fz aP a.place aQ a.hd] _ _
    refine (HSm.out _ _ (Nat.le_refl _) hXP hXQ).mono ?_; rintro e w6 ⟨P2, Q2, rfl, hP2, hQ2, e6⟩
    replace hP2 := hP2.more e6.size
    replace hQ2 := hQ2.more e6.size
    replace hC := hC.ext e6
    replace hR := hR.ext e6
    replace hRaw := hRaw.ext e6
    replace hP := (hP.ext e6).sl
    replace hQ := (hQ.ext e6).sl
    replace hE := hE.trans e6
    clear e6 hXP hXQ HSm
    have hraw2 := hRaw.rec_ a1 a2 a3
    generalize cut70 a = x at *
    obtain ⟨x1, x2, x3, x4, x5⟩ := hxo
    have hF := Ext.refl w6
    have hlC := hC.lt
    have hlR := Blk.lt hR
    go_wp2_with (refine stop_store 34 (.tmp 10) (.tmp 37) rfl ?_)
    refine ⟨?_⟩
    change wpList _ _ _ _ _ (w6.alloc (.cells (citeC Seal.zF (.slice none 0 0) 0 (.slice none 0 0) Seal.zH).toArray 34))
    have hD0 : Blk (w6.alloc (.cells (citeC Seal.zF (.slice none 0 0) 0 (.slice none 0 0) Seal.zH).toArray 34)) w6.heap.size 34 (citeC Seal.zF (.slice none 0 0) 0 (.slice none 0 0) Seal.zH).toArray := Blk.new w6 _ _
    have e73a := (Ext.refl w6).alloc (.cells (citeC Seal.zF (.slice none 0 0) 0 (.slice none 0 0) Seal.zH).toArray 34)
    obtain ⟨g72, g72e⟩ : ∃ g72, g72 = w6.heap.size := ⟨_, rfl⟩
    rw [← g72e] at hD0
    try rw [← g72e]
    have g72b : w6.heap.size ≤ g72 := by omega
    generalize w6.alloc (.cells (citeC Seal.zF (.slice none 0 0) 0 (.slice none 0 0) Seal.zH).toArray 34) = v71' at *
    refine wpList_store_row rfl 34 (.tmp 10) (.tmp 37) rfl g72 (citeC x.fz P2 x.place Q2 x.hd).toArray (by rfl) (by rfl) 34 _ hD0 (size_ct x1 x2 x3) (by simp only [List.size_toArray]; rw [citeC_length x1 x2 x3]; rfl) (all_oneCell_toArray (citeC_one hP2.oneCell hQ2.oneCell)) ?_
    simp only [Act.put, List.setIfInBounds_toArray, List.set_cons_zero, List.set_cons_succ]
    have hD : CiteAt (v71'.setRow g72 (citeC x.fz P2 x.place Q2 x.hd).toArray) g72 x.fz P2 x.place Q2 x.hd := Blk.row hD0 _
    have e73 : Ext w6 (v71'.setRow g72 (citeC x.fz P2 x.place Q2 x.hd).toArray) := e73a.row g72b _
    clear hD0 e73a g72e
    generalize v71'.setRow g72 (citeC x.fz P2 x.place Q2 x.hd).toArray = v71 at *
    clear v71' 
    have sz73 := e73.size
    replace hF := hF.trans e73
    clear e73
    go_wp2_with (refine stop_load 32 (.tmp 38) rfl ?_)
    refine ⟨?_⟩
    have hmd := (hC.ext hF).head r1
    refine wpList_load_mid rfl 32 (.tmp 38) rfl gC 37 (by rfl) (c.hd.cells) _ hmd Tryz.underlying32 rfl ((Seal.size_hd c.hd r2 r3).trans (by rw [List.size_toArray])) ?_
    simp only [Act.put, List.setIfInBounds_toArray, List.set_cons_zero, List.set_cons_succ]
    clear hmd
    go_wp2_with (refine stop_store 32 (.tmp 40) (.tmp 39) rfl ?_)
    refine ⟨?_⟩
    have hth : v71.there g72 37 c.hd.cells.toArray.size := Blk.there hD 37 _ (by rw [citeC_length x1 x2 x3, List.size_toArray, Seal.Hd.cells_length c.hd r2 r3]; omega)
    refine wpList_store_mid rfl 32 (.tmp 40) (.tmp 39) rfl g72 37 _ (by rfl) (by rfl) hth (Seal.size_hd c.hd r2 r3) (all_oneCell_toArray (Seal.Hd.one c.hd)) ?_
    simp only [Act.put, List.setIfInBounds_toArray, List.set_cons_zero, List.set_cons_succ]
    clear hth
    have hUc : Upd g72 v71 (v71.setCells g72 37 c.hd.cells.toArray.toList) := upd_self _ _ _ (Upd.refl g72 v71)
    replace hD := hD.setHead x1 x2 x3 c.hd r2 r3
    have sz74 := hUc.size
    replace hF := Ext.upd hF hUc (show w6.heap.size ≤ g72 by omega)
    clear hUc
    generalize (v71.setCells g72 37 c.hd.cells.toArray.toList) = v74 at *
    go_wp2_with (refine stop_load 3 (.tmp 41) rfl ?_)
    refine ⟨?_⟩
    have k0 := (hC.ext hF).place r1 0 _ rfl
    have fz0 := Blk.frozen hD 35
    have cc0 := hD.place x1 0 _ rfl
    have lt0 := Blk.lt hD
    have hUc : Upd g72 v74 (v74.setCell ⟨g72, 35, none⟩ (.int .i64 c.place)) := (Upd.refl g72 v74).setCell (p := ⟨g72, 35, none⟩) (.inl rfl) _
    go_wp2_with (refine stop_load 3 (.tmp 45) rfl ?_)
    refine ⟨?_⟩
    clear fz0 cc0 lt0
    try clear k0
    try clear k1
    replace hD := hD.setPlace x1 c.place
    have sz75 := hUc.size
    replace hF := Ext.upd hF hUc (show w6.heap.size ≤ g72 by omega)
    clear hUc
    generalize (v74.setCell ⟨g72, 35, none⟩ (.int .i64 c.place)) = v75 at *
    have k0 := (hC.ext hF).fld.1
    have fz0 := Blk.frozen hD 0
    have cc0 := hD.fld.1
    have lt0 := Blk.lt hD
    have hUc : Upd g72 v75 (v75.setCell ⟨g72, 0, none⟩ (.int .i64 c.fz.win)) := (Upd.refl g72 v75).setCell (p := ⟨g72, 0, none⟩) (.inl rfl) _
    go_wp2_with (refine stop_load 3 (.tmp 50) rfl ?_)
    refine ⟨?_⟩
    clear fz0 cc0 lt0
    try clear k0
    try clear k1
    replace hD := hD.setWin c.fz.win
    have sz76 := hUc.size
    replace hF := Ext.upd hF hUc (show w6.heap.size ≤ g72 by omega)
    clear hUc
    generalize (v75.setCell ⟨g72, 0, none⟩ (.int .i64 c.fz.win)) = v76 at *
    have k0 := (hC.ext hF).fld.2.1
    have fz0 := Blk.frozen hD 1
    have cc0 := hD.fld.2.1
    have lt0 := Blk.lt hD
    have hUc : Upd g72 v76 (v76.setCell ⟨g72, 1, none⟩ (.int .i64 c.fz.cnt)) := (Upd.refl g72 v76).setCell (p := ⟨g72, 1, none⟩) (.inl rfl) _
    go_wp2_with (refine stop_load 36 (.tmp 54) rfl ?_)
    refine ⟨?_⟩
    clear fz0 cc0 lt0
    try clear k0
    try clear k1
    replace hD := hD.setCnt c.fz.cnt
    have sz77 := hUc.size
    replace hF := Ext.upd hF hUc (show w6.heap.size ≤ g72 by omega)
    clear hUc
    generalize (v76.setCell ⟨g72, 1, none⟩ (.int .i64 c.fz.cnt)) = v77 at *
    refine wpList_load_mid rfl 36 (.tmp 54) rfl gX 103 (by rfl) (y.cells) _ (fun i v hv => cell_ext hF (hraw2 i v hv)) Tryz.underlying36 rfl (size_rc y) ?_
    simp only [Act.put, List.setIfInBounds_toArray, List.set_cons_zero, List.set_cons_succ]
    go_wp2_with (refine stop_store 36 (.tmp 11) (.tmp 55) rfl ?_)
    refine ⟨?_⟩
    change wpList _ _ _ _ _ (v77.alloc (.cells #[.int .i64 0, .int .i64 0, .int .i64 0, .string ⟨#[]⟩] 36))
    have hS0 : RecAt (v77.alloc (.cells #[.int .i64 0, .int .i64 0, .int .i64 0, .string ⟨#[]⟩] 36)) v77.heap.size ⟨0, 0, 0, []⟩ := Blk.new v77 _ _
    have eA := (Ext.refl v77).alloc (.cells #[.int .i64 0, .int .i64 0, .int .i64 0, .string ⟨#[]⟩] 36)
    obtain ⟨gS, hgS⟩ : ∃ g, g = v77.heap.size := ⟨_, rfl⟩
    rw [← hgS] at hS0
    try rw [← hgS]
    have hlD := Blk.lt hD
    have hgb : v77.heap.size ≤ gS := by omega
    have hgDS : g72 ≠ gS := by omega
    have hgS6 : w6.heap.size ≤ gS := by have := hF.size; omega
    generalize (v77.alloc (.cells #[.int .i64 0, .int .i64 0, .int .i64 0, .string ⟨#[]⟩] 36)) = v78' at *
    refine wpList_store_row rfl 36 (.tmp 11) (.tmp 55) rfl gS #[.int .i64 y.win, .int .i64 y.idx, .int .i64 y.time, .string (bs y.pay)] (by rfl) (by rfl) 36 _ hS0 (size_rc y) (by rfl) (by simp [Value.oneCell']) ?_
    simp only [Act.put, List.setIfInBounds_toArray, List.set_cons_zero, List.set_cons_succ]
    have hS : RecAt (v78'.setRow gS #[.int .i64 y.win, .int .i64 y.idx, .int .i64 y.time, .string (bs y.pay)]) gS y := Blk.row hS0 _
    have e8 : Ext v77 (v78'.setRow gS #[.int .i64 y.win, .int .i64 y.idx, .int .i64 y.time, .string (bs y.pay)]) := eA.row hgb _
    clear hS0 eA hgS hgb
    generalize v78'.setRow gS #[.int .i64 y.win, .int .i64 y.idx, .int .i64 y.time, .string (bs y.pay)] = v78 at *
    clear v78' 
    replace hD := hD.ext e8
    have sz78 := e8.size
    replace hF := hF.trans e8
    clear e8
    go_wp2_with (refine stop_load 9 (.tmp 56) rfl ?_)
    refine ⟨?_⟩
    have k0 := hS.cells.2.2.2
    go_wp2_with fail
    refine (short19_calls y.pay 2000 _ hy2 (by omega)).mono ?_; rintro e w' ⟨rfl, rfl⟩
    clear k0
    have hzl : (y.pay.take 2000).length ≤ 2000 := by rw [List.length_take]; omega
    generalize y.pay.take 2000 = z at *

    have fz0 := Blk.frozen hS 3
    have cc0 := hS.cells.2.2.2
    have lt0 := Blk.lt hS
    have hUc : Upd gS v78 (v78.setCell ⟨gS, 3, none⟩ (.string (bs z))) := (Upd.refl gS v78).setCell (p := ⟨gS, 3, none⟩) (.inl rfl) _
    go_wp2_with (refine stop_load 3 (.tmp 60) rfl ?_)
    refine ⟨?_⟩
    clear fz0 cc0 lt0
    try clear k0
    try clear k1
    replace hD := Blk.grown hD hUc (by simp; omega)
    replace hS := hS.pay z
    have sz79 := hUc.size
    replace hF := Ext.upd hF hUc (show w6.heap.size ≤ gS by omega)
    clear hUc
    generalize (v78.setCell ⟨gS, 3, none⟩ (.string (bs z))) = v79 at *
    have k0 := (hR.ext hF).cells.1
    have fz0 := Blk.frozen hS 0
    have cc0 := Blk.cell hS 0
    have lt0 := Blk.lt hS
    have hUc : Upd gS v79 (v79.setCell ⟨gS, 0, none⟩ (.int .i64 r.win)) := (Upd.refl gS v79).setCell (p := ⟨gS, 0, none⟩) (.inl rfl) _
    go_wp2_with (refine stop_load 3 (.tmp 63) rfl ?_)
    refine ⟨?_⟩
    clear fz0 cc0 lt0
    try clear k0
    try clear k1
    replace hD := Blk.grown hD hUc (by simp; omega)
    replace hS := (Blk.set_ hS 0 (.int .i64 r.win))
    have sz80 := hUc.size
    replace hF := Ext.upd hF hUc (show w6.heap.size ≤ gS by omega)
    clear hUc
    generalize (v79.setCell ⟨gS, 0, none⟩ (.int .i64 r.win)) = v80 at *
    replace hS : RecAt v80 gS ⟨r.win, y.idx, y.time, z⟩ := hS
    have k0 := (hR.ext hF).cells.2.1
    have fz0 := Blk.frozen hS 1
    have cc0 := hS.cells.2.1
    have lt0 := Blk.lt hS
    have hUc : Upd gS v80 (v80.setCell ⟨gS, 1, none⟩ (.int .i64 r.idx)) := (Upd.refl gS v80).setCell (p := ⟨gS, 1, none⟩) (.inl rfl) _
    go_wp2_with (refine stop_load 36 (.tmp 11) rfl ?_)
    refine ⟨?_⟩
    clear fz0 cc0 lt0
    try clear k0
    try clear k1
    replace hD := Blk.grown hD hUc (by simp; omega)
    replace hS := hS.idx r.idx
    have sz81 := hUc.size
    replace hF := Ext.upd hF hUc (show w6.heap.size ≤ gS by omega)
    clear hUc
    generalize (v80.setCell ⟨gS, 1, none⟩ (.int .i64 r.idx)) = v81 at *
    obtain ⟨d, hdd⟩ : ∃ d : Ct, d = ⟨⟨c.fz.win, c.fz.cnt, x.fz.root⟩, x.path, c.place, x.super, c.hd⟩ := ⟨_, rfl⟩
    obtain ⟨p, hpp⟩ : ∃ p : Rc, p = ⟨r.win, r.idx, y.time, z⟩ := ⟨_, rfl⟩
    replace hD : CiteAt v81 g72 d.fz P2 d.place Q2 d.hd := by rw [hdd]; exact hD
    replace hS : RecAt v81 gS p := by rw [hpp]; exact hS
    have hok : d.ok := by rw [hdd]; exact ⟨x1, r2, r3, x4, x5⟩
    have hdf : fitC d := by
      refine ⟨hok, ?_⟩
      rw [hdd]
      exact ⟨hfit.2.1, hfit.2.2.1, by show x.path.length ≤ _; omega, by show x.super.length ≤ _; omega⟩
    have hzp : p.pay.length ≤ 2000 := by rw [hpp]; exact hzl
    have hop := one_plain kk r p c d Hrk.out
    have hop2 : rightCB kk p d = true → p ≠ r → _ := fun h1 h2 => hop h1 hfit.1 hok (by rw [hdd]) (by rw [hdd]) (by rw [hdd]) (by rw [hpp]) h2
    clear hop
    replace hP2 : SlS w6 w6.heap.size P2 d.path := by rw [hdd]; exact hP2
    replace hQ2 : SlS w6 w6.heap.size Q2 d.super := by rw [hdd]; exact hQ2
    have HR := fun P Q w KW h1 h2 => ctRight_calls kk (by omega) p (by omega) d hdf P Q w KW h1 h2
    obtain ⟨d1, d2, d3, -, -⟩ := id hok
    obtain ⟨b, hb⟩ : ∃ b, b = rightCB kk p d := ⟨_, rfl⟩
    rw [← hb] at HR hop2
    have heq : ∀ w : World, (Op.equalIn 10000 36 (.agg #[.int .i64 p.win, .int .i64 p.idx, .int .i64 p.time, .string (bs p.pay)]) (.agg #[.int .i64 r.win, .int .i64 r.idx, .int .i64 r.time, .string (bs r.pay)])).run Tryz.prog w = .ok (decide (p = r)) w := fun w => eq_rc p r w
    have hgw := guard_rc
    have hA1 := Hrk.out
    clear hb hdd hpp x1 x2 x3 x4 x5 hx1 hx2 hzl hraw2 hRaw
    refine wpList_load_row rfl 36 (.tmp 11) rfl gS (by rfl) 36 _ (0, 0) _ hS Tryz.underlying36 rfl (size_rc p) ?_
    simp only [Act.put, List.setIfInBounds_toArray, List.set_cons_zero, List.set_cons_succ]
    go_wp2_with (refine stop_load 34 (.tmp 10) rfl ?_)
    refine ⟨?_⟩
    refine wpList_load_row rfl 34 (.tmp 10) rfl g72 (by rfl) 34 _ (0, 0) _ hD Tryz.underlying34 rfl (size_ct d1 d2 d3) ?_
    simp only [Act.put, List.setIfInBounds_toArray, List.set_cons_zero, List.set_cons_succ]
    go_wp2_with fail
    cases b
    · skip
      change Calls _ _ #[.string (bs kk), p.v, citeV d.fz P2 d.place Q2 d.hd] _ _
      refine (HR _ _ _ (KW.ext (hE.trans hF)) (hP2.ext hF) (hQ2.ext hF)).mono ?_; rintro e w7 ⟨rfl, e7⟩
      replace hF := hF.trans e7
      go_wp2_with fail
      go_ret
      exact ⟨rfl, hE.trans hF⟩
    · skip
      change Calls _ _ #[.string (bs kk), p.v, citeV d.fz P2 d.place Q2 d.hd] _ _
      refine (HR _ _ _ (KW.ext (hE.trans hF)) (hP2.ext hF) (hQ2.ext hF)).mono ?_; rintro e w7 ⟨rfl, e7⟩
      replace hF := hF.trans e7
      replace hD := hD.ext e7
      replace hS := hS.ext e7
      clear e7 HR
      go_wp2_with (refine stop_load 36 (.tmp 11) rfl ?_)
      refine ⟨?_⟩
      refine list_wantS (by rfl) (fun K hK => ?_)
      refine wp_load_row 36 (.tmp 11) rfl gS (by rfl) 36 _ (0, 0) _ hS Tryz.underlying36 rfl (size_rc p) ?_
      refine hK _ _ ?_; clear hK K
      simp only [Act.put, List.setIfInBounds_toArray, List.set_cons_zero, List.set_cons_succ]
      go_wp2_with (refine stop_load 36 (.tmp 7) rfl ?_)
      refine ⟨?_⟩
      refine list_wantS (by rfl) (fun K hK => ?_)
      refine wp_load_row 36 (.tmp 7) rfl (gC + 1) (by rfl) 36 _ (0, 0) _ (hR.ext hF) Tryz.underlying36 rfl (size_rc r) ?_
      refine hK _ _ ?_; clear hK K
      simp only [Act.put, List.setIfInBounds_toArray, List.set_cons_zero, List.set_cons_succ]
      obtain ⟨ne, hne2⟩ : ∃ b, b = decide (p = r) := ⟨_, rfl⟩
      rw [← hne2] at heq
      cases ne
      · skip
        have hnr : p ≠ r := of_decide_eq_false hne2.symm
        obtain ⟨m1, m2, m3, m4, m5⟩ := hop2 trivial hnr
        have ob1 := fz_outB_le c.fz r1
        have ob2 := fz_outB_le d.fz d1
        have ob3 := Rc.outB_length r
        have ob4 := Rc.outB_length p
        have HM1 := fun P Q w h1 h2 => met_calls c.place c.hd.size (0 :: c.fz.outB) (0 :: d.fz.outB) (by rw [List.length_cons]; omega) (by rw [List.length_cons]; omega) c.super d.super hfit.1.2.2.2.2 hok.2.2.2.2 m1 m2 P Q w h1 h2
        have HM2 := fun P Q w h1 h2 => met_calls r.idx c.fz.cnt (0 :: r.outB) (0 :: p.outB) (by rw [List.length_cons]; omega) (by rw [List.length_cons]; omega) c.path d.path hfit.1.2.2.2.1 hok.2.2.2.1 m3 m4 P Q w h1 h2
        have HB1 := fun w => refFreezeBytes_calls c.fz r1 w
        have HB2 := fun w => refFreezeBytes_calls d.fz d1 w
        have HB3 := fun w => refRecBytes_calls r w (by omega)
        have HB4 := fun w => refRecBytes_calls p w (by omega)
        rw [show (if r.check = 0 then r.bytes else []) = r.outB from rfl] at HB3
        rw [show (if p.check = 0 then p.bytes else []) = p.outB from rfl] at HB4
        generalize metB (Way.turnsI c.place c.hd.size) c.super d.super (0 :: c.fz.outB) (0 :: d.fz.outB) = u1 at *
        generalize metB (Way.turnsI r.idx c.fz.cnt) c.path d.path (0 :: r.outB) (0 :: p.outB) = u2 at *
        have H1 := Lib.hid HM1; have H2 := Lib.hid HM2; have H3 := Lib.hid HB1; have H4 := Lib.hid HB2; have H5 := Lib.hid HB3; have H6 := Lib.hid HB4
        have HU := Lib.hid m5
        clear HM1 HM2 HB1 HB2 HB3 HB4 m1 m2 m3 m4 m5 hop2 hne2 hA1
        generalize c.fz.outB = s1 at *
        generalize d.fz.outB = s2 at *
        generalize r.outB = s3 at *
        generalize p.outB = s4 at *
        go_wp2_with (refine stop_load 30 (.tmp 78) rfl ?_)
        refine ⟨?_⟩
        have hmd := (hC.ext hF).fz
        refine wpList_load_mid rfl 30 (.tmp 78) rfl gC 0 (by rfl) (c.fz.cells) _ hmd Tryz.underlying30 rfl ((Seal.size_fz c.fz r1).trans (by rw [List.size_toArray])) ?_
        simp only [Act.put, List.setIfInBounds_toArray, List.set_cons_zero, List.set_cons_succ]
        clear hmd
        go_wp2_with fail
        change Calls _ _ #[c.fz.v] _ _
        refine (H3.out _).mono ?_; rintro e v101 ⟨rfl, e102⟩
        replace hD := hD.ext e102
        replace hS := hS.ext e102
        have sz102 := e102.size
        replace hF := hF.trans e102
        clear e102
        go_wp2_with (refine stop_load 30 (.tmp 84) rfl ?_)
        refine ⟨?_⟩
        have hmd := hD.fz
        refine wpList_load_mid rfl 30 (.tmp 84) rfl g72 0 (by rfl) (d.fz.cells) _ hmd Tryz.underlying30 rfl ((Seal.size_fz d.fz d1).trans (by rw [List.size_toArray])) ?_
        simp only [Act.put, List.setIfInBounds_toArray, List.set_cons_zero, List.set_cons_succ]
        clear hmd
        go_wp2_with fail
        change Calls _ _ #[d.fz.v] _ _
        refine (H4.out _).mono ?_; rintro e v103 ⟨rfl, e104⟩
        replace hD := hD.ext e104
        replace hS := hS.ext e104
        have sz104 := e104.size
        replace hF := hF.trans e104
        clear e104
        have k0 := (hC.ext hF).place r1 0 _ rfl
        have k1 := (hC.ext hF).hfl r1 |>.1
        have k2 := (hC.ext hF).super r1 0 _ rfl
        have k3 := hD.super d1 0 _ rfl
        go_wp2_with fail
        change Calls _ _ #[.int .i64 c.place, .int .i64 c.hd.size, .string (bs (0 :: s1)), .string (bs (0 :: s2)), .slice AQ c.super.length cQ, Q2] _ _
        refine (H1.out _ _ _ (hQ.ext hF) (hQ2.ext hF)).mono ?_; rintro e v105 ⟨rfl, e106⟩
        replace hD := hD.ext e106
        replace hS := hS.ext e106
        have sz106 := e106.size
        replace hF := hF.trans e106
        clear e106
        clear k0 k1 k2 k3
        go_wp2_with (refine stop_load 36 (.tmp 7) rfl ?_)
        refine ⟨?_⟩
        refine wpList_load_row rfl 36 (.tmp 7) rfl (gC + 1) (by rfl) 36 _ (0, 0) _ (hR.ext hF) Tryz.underlying36 rfl (size_rc r) ?_
        simp only [Act.put, List.setIfInBounds_toArray, List.set_cons_zero, List.set_cons_succ]
        go_wp2_with fail
        change Calls _ _ #[r.v] _ _
        refine (H5.out _).mono ?_; rintro e v107 ⟨rfl, e108⟩
        replace hD := hD.ext e108
        replace hS := hS.ext e108
        have sz108 := e108.size
        replace hF := hF.trans e108
        clear e108
        go_wp2_with (refine stop_load 36 (.tmp 11) rfl ?_)
        refine ⟨?_⟩
        refine wpList_load_row rfl 36 (.tmp 11) rfl gS (by rfl) 36 _ (0, 0) _ hS Tryz.underlying36 rfl (size_rc p) ?_
        simp only [Act.put, List.setIfInBounds_toArray, List.set_cons_zero, List.set_cons_succ]
        go_wp2_with fail
        change Calls _ _ #[p.v] _ _
        refine (H6.out _).mono ?_; rintro e v109 ⟨rfl, e110⟩
        replace hD := hD.ext e110
        replace hS := hS.ext e110
        have sz110 := e110.size
        replace hF := hF.trans e110
        clear e110
        have k0 := (hR.ext hF).cells.2.1
        have k1 := (hC.ext hF).fld.2.1
        have k2 := (hC.ext hF).path r1 0 _ rfl
        have k3 := hD.path d1 0 _ rfl
        go_wp2_with fail
        change Calls _ _ #[.int .i64 r.idx, .int .i64 c.fz.cnt, .string (bs (0 :: s3)), .string (bs (0 :: s4)), .slice AP c.path.length cP, P2] _ _
        refine (H2.out _ _ _ (hP.ext hF) (hP2.ext hF)).mono ?_; rintro e v111 ⟨rfl, e112⟩
        replace hD := hD.ext e112
        replace hS := hS.ext e112
        have sz112 := e112.size
        replace hF := hF.trans e112
        clear e112
        clear k0 k1 k2 k3 H1 H2 H3 H4 H5 H6
        have hU := HU.out
        cases u1
        · cases u2
          · cases hU
          · go_wp2_with fail
            go_ret
            exact ⟨rfl, hE.trans hF⟩
        · go_wp2_with fail
          go_ret
          exact ⟨rfl, hE.trans hF⟩
      · skip
        clear hne2 hop2
        go_wp2_with fail
        go_ret
        exact ⟨rfl, hE.trans hF⟩

set_option maxRecDepth 100000 in
theorem contract (H : Type) (enc : TypeId × Value → H) (W : World) (base : Nat) (args : Array Value) (ds gs : List (DataW H)) (before : List MemPlace)
    (hval0 : ∀ (j : Nat) t v, Tryz.f6.params[j]? = some t → args[j]? = some v → Value.okWide Tryz.prog W .any base t v)
    (hW : DataW.Whole enc Tryz.prog Tryz.f6.params.toList Rows.citeOneSpec.vars false W args.toList ds gs before) (hL : laidMetH Tryz.prog Rows.citeOneRow.laid W) :
    Calls Tryz.prog 6 args W fun e W' => ∃ v, e = .returned v ∧ Rows.citeOneSpec.post enc Tryz.prog Tryz.f6 false true false false W args v W' := by
  have K : Keys W := keys_of hL
  have hval : ∀ (j : Nat) t v, Tryz.f6.params[j]? = some t → args[j]? = some v → Value.okWide Tryz.prog W .any base t v := hval0
  have hW' := hW
  obtain ⟨p, q, hA0, hV, rfl, hfz, hnd⟩ := hW
  have hA : DataW.TrodAll enc Tryz.prog W 0 (fun _ => true) true Tryz.f6.params.toList args.toList ds p := hA0
  rw [Tryz.params6] at hA hval
  obtain ⟨v0, vs0, d0, ds0, p0, q0, hargs, rfl, rfl, hx0, r0⟩ := trodAll_cons hA
  obtain ⟨v1, vs1, d1, ds1, p1, q1, rfl, rfl, rfl, hx1, r1⟩ := trodAll_cons r0
  obtain ⟨rfl, rfl, rfl⟩ := trodAll_nil r1
  obtain rfl : args = #[v0, v1] := by cases args; simp_all
  obtain ⟨rfl, rfl⟩ := trodVars_none hV
  obtain ⟨d, Ad, cd, qd, sd, rfl, hd⟩ := op_wd (hval 0 25 v0 rfl rfl) (tr_of hx0)
  obtain ⟨b, bP, bQ, bR, rfl, hbo, hbP, hbQ, -, hbp⟩ := op_raw (hval 1 55 v1 rfl rfl) (tr_of hx1)
  refine (walk d Ad cd qd sd b bP bQ bR hbo hbp W K hd hbP hbQ).mono fun e W' ⟨he, hg⟩ => ?_
  subst he
  exact ⟨_, rfl, law_post hW' rfl rfl (by kernel_rfl) rfl rfl rfl hg⟩

theorem laid_met (os : Os) : laidMet Tryz.prog Rows.citeOneRow.laid ((keysWorld os).forCall (fun _ _ => 0) ⟨#[], #[.agg #[.slice none 0 0, .slice none 0 0, .slice none 0 0, .int .i64 0, .string .empty], .agg (Array.mk (α := Value) (((Value.int IntKind.i64 0 :: Value.int IntKind.i64 0 :: List.replicate 32 (Value.int IntKind.u8 0)) ++ (Value.slice none 0 0 :: Value.int IntKind.i64 0 :: Value.slice none 0 0 :: (Value.int IntKind.i64 0 :: (List.replicate 32 (Value.int IntKind.u8 0) ++ (Value.int IntKind.i64 0 :: List.replicate 32 (Value.int IntKind.u8 0)))))) ++ [Value.int IntKind.i64 0, Value.int IntKind.i64 0, Value.int IntKind.i64 0, Value.string .empty]))], []⟩).memory :=
  laidMet_of_run' 8 (by kernel_rfl) (by kernel_rfl)
theorem reads (os : Os) {H : Type} (enc : TypeId × Value → H) : ∃ x, DataW.whole enc Tryz.prog ((keysWorld os).forCall (fun _ _ => 0) ⟨#[], #[.agg #[.slice none 0 0, .slice none 0 0, .slice none 0 0, .int .i64 0, .string .empty], .agg (Array.mk (α := Value) (((Value.int IntKind.i64 0 :: Value.int IntKind.i64 0 :: List.replicate 32 (Value.int IntKind.u8 0)) ++ (Value.slice none 0 0 :: Value.int IntKind.i64 0 :: Value.slice none 0 0 :: (Value.int IntKind.i64 0 :: (List.replicate 32 (Value.int IntKind.u8 0) ++ (Value.int IntKind.i64 0 :: List.replicate 32 (Value.int IntKind.u8 0)))))) ++ [Value.int IntKind.i64 0, Value.int IntKind.i64 0, Value.int IntKind.i64 0, Value.string .empty]))], []⟩).memory Tryz.f6.params.toList Rows.citeOneSpec.vars false (#[.agg #[.slice none 0 0, .slice none 0 0, .slice none 0 0, .int .i64 0, .string .empty], .agg (Array.mk (α := Value) (((Value.int IntKind.i64 0 :: Value.int IntKind.i64 0 :: List.replicate 32 (Value.int IntKind.u8 0)) ++ (Value.slice none 0 0 :: Value.int IntKind.i64 0 :: Value.slice none 0 0 :: (Value.int IntKind.i64 0 :: (List.replicate 32 (Value.int IntKind.u8 0) ++ (Value.int IntKind.i64 0 :: List.replicate 32 (Value.int IntKind.u8 0)))))) ++ [Value.int IntKind.i64 0, Value.int IntKind.i64 0, Value.int IntKind.i64 0, Value.string .empty]))] : Array Value).toList 8 = some x :=
  Option.isSome_iff_exists.1 (by kernel_rfl)
set_option maxRecDepth 100000 in
theorem lifted (os : Os) (started : os.Started) (H : Type) (enc : TypeId × Value → H) (F : Stop.Interp) :
    ReturnsInHanded {} Tryz.checked os 6 .any ((OpenSpec.ofChange Rows.citeOneSpec).preRow enc Tryz.prog Tryz.f6 Rows.citeOneRow.domain false Rows.citeOneRow.laid) (((OpenSpec.ofChange Rows.citeOneSpec).at F).post enc Tryz.prog Tryz.f6 false true false false) := by
  obtain ⟨x, hx⟩ := reads os enc
  refine returnsInHanded_of_row (C := Tryz.checked) (s := OpenSpec.ofChange Rows.citeOneSpec) own_ started (by kernel_rfl) Tryz.func6
    (witness_row_at (enc := enc) (C := Tryz.checked) false (keysWorld os) #[.agg #[.slice none 0 0, .slice none 0 0, .slice none 0 0, .int .i64 0, .string .empty], .agg (Array.mk (α := Value) (((Value.int IntKind.i64 0 :: Value.int IntKind.i64 0 :: List.replicate 32 (Value.int IntKind.u8 0)) ++ (Value.slice none 0 0 :: Value.int IntKind.i64 0 :: Value.slice none 0 0 :: (Value.int IntKind.i64 0 :: (List.replicate 32 (Value.int IntKind.u8 0) ++ (Value.int IntKind.i64 0 :: List.replicate 32 (Value.int IntKind.u8 0)))))) ++ [Value.int IntKind.i64 0, Value.int IntKind.i64 0, Value.int IntKind.i64 0, Value.string .empty]))] rfl (by kernel_rfl) (by kernel_rfl) (by kernel_rfl)
      (OpenSpec.preRow_of_cond 8 hx rfl (fun k hk => by cases hk) (by kernel_rfl) (laid_met os))) ?_
  intro W base args ds gs before hval hW _ _ _ hL _ _
  exact contract H enc W base args ds gs before hval hW hL

theorem said : Rows.CiteOneSaid :=
  OpenClaim.holds_of_cond 6 Tryz.f6 rfl rfl rfl rfl rfl rfl rfl ⟨rfl, rfl, rfl, rfl, rfl⟩ rfl rfl rfl rfl rfl (by kernel_rfl) Tryz.func6 (by kernel_rfl)
    (of_decide_eq_true (by kernel_rfl)) (by unfold Func.isWrapper; first | (rw [if_pos (by decide +kernel)]; kernel_rfl) | (rw [if_neg (by decide +kernel)]; exact ⟨rfl, rfl⟩))
    (fun os started H enc _ F => by rw [OpenClaim.pre_eq_preRow]; exact lifted os started H enc F)
theorem plain (f : FuncId) (fn : Func) (hf : Tryz.pinned.checked.prog.funcNamed "scrinium/scriniumlaw19.CiteOne" = some f) (hfn : Tryz.pinned.checked.prog.funcs[f]? = some fn) :
    false = Tryz.pinned.checked.prog.looks [] ∧ ∀ (j : Nat) t, fn.params[j]? = some t → Tryz.pinned.checked.prog.wantsStandIn t = false := by
  obtain rfl : f = 6 := Option.some.inj ((show Tryz.prog.funcNamed "scrinium/scriniumlaw19.CiteOne" = some 6 by kernel_rfl).symm.trans hf) |>.symm
  obtain rfl : fn = Tryz.f6 := (Option.some.inj (Tryz.func6.symm.trans hfn)).symm
  refine ⟨by kernel_rfl, fun j t ht => ?_⟩
  rw [Tryz.params6] at ht
  have hm : t ∈ ([25, 55] : List TypeId) := by simpa using Array.mem_of_getElem? ht
  have hall : (([25, 55] : List TypeId).all fun u => !Tryz.prog.wantsStandIn u) = true := by kernel_rfl
  exact (show Tryz.prog.wantsStandIn t = false by simpa using List.all_eq_true.1 hall t hm)
theorem proved : Rows.CiteOneCardSaid :=
  Claim7.holds_tied_plain_at .later [] _ _ _ _ said (fun _ h => by cases h) (by kernel_rfl) (fun _ h => by cases h) citeOne_row_tie rfl ⟨rfl, rfl⟩ (by kernel_rfl) rfl plain (by kernel_rfl)

end Go.Proofs.YtcgnjdkennkheaaGreatDoor.citeOne
