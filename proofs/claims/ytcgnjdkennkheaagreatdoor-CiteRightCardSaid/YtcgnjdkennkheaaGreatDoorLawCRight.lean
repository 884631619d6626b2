/-
  scriniumlaw19.CiteRight: no condition.
-/
import Derived.Test.YtcgnjdkennkheaaGreatDoorWorldM
import Derived.Test.YtcgnjdkennkheaaGreatDoorLaw
import Derived.Deep.DeepCutAuto
set_option linter.unusedVariables false
set_option maxRecDepth 100000
set_option linter.unusedSimpArgs false
namespace Go.Proofs.YtcgnjdkennkheaaGreatDoor.citeRight
open Go.ChangeShapes Go.WideShapes Go.ChangeAt Go.RowKit
open Seal (Fz Hd St Ct)
attribute [local go_sem] bs_size bs_toList2 bs_append bs_extract_end bs_extract_begin bs_get wrap64_b grow_cell grow_frozen

/-! ### The walk -/
theorem wd_may (wd : Wd) (h : wd.recs ≠ []) : wd.cite.may := by
  have h1 := pathS_le wd.leaves wd.k
  have h2 := pathS_le (leavesF wd.fl) wd.place
  have h3 := wd.leaves_length
  have h4 := wd.rl_length
  have h5 := leavesF_length wd.fl
  have h6 := wd.fl_le
  have h7 := wd.place_lt
  refine ⟨wd.fz_may h, ?_, ?_, ?_, ?_, ?_⟩
  · show Seal.Hd.may (Seal.Hd.sign (wd.key.take 40) (wd.fl.length : Int) (rootS (leavesF wd.fl)) 99)
    unfold Seal.Hd.may Seal.Hd.sign
    simp only
    omega
  · show (0 : Int) ≤ (wd.place : Int)
    omega
  · show (wd.place : Int) ≤ _
    omega
  · show (pathS wd.leaves wd.k).length ≤ _
    omega
  · show (pathS (leavesF wd.fl) wd.place).length ≤ _
    omega
theorem wd_signed (wd : Wd) (h : wd.recs ≠ []) : wd.cite.hd.rightB (wd.key.take 40) = true := by
  have h1 := (hd_right (wd.key.take 40) (wd.fl.length : Int) 99 (rootS (leavesF wd.fl))).1
  have h2 : Seal.Hd.may (Seal.Hd.sign (wd.key.take 40) (wd.fl.length : Int) (rootS (leavesF wd.fl)) 99) := (wd_may wd h).2.1
  show Seal.Hd.rightB (wd.key.take 40) (Seal.Hd.sign (wd.key.take 40) (wd.fl.length : Int) (rootS (leavesF wd.fl)) 99) = true
  rw [h1]
  simpa using h2
theorem ct_length (x : Ct) (hm : x.may) (ho : x.ok) : x.bytes.length ≤ 1099511627776 := by
  obtain ⟨-, -, -, -, m5, m6⟩ := hm
  obtain ⟨r1, r2, r3, r4, r5⟩ := ho
  have l1 := Seal.text_le x.fz.bytes
  have l2 := Oct.list_length_le 32 x.path (fun s hs => Nat.le_of_eq (r4 s hs))
  have l3 := Seal.put_le (Seal.u64 x.place)
  have l4 := Oct.list_length_le 32 x.super (fun s hs => Nat.le_of_eq (r5 s hs))
  have l5 := Seal.text_le x.hd.bytes
  have l6 := Seal.Fz.bytes_length x.fz r1
  have l7 := Seal.Ct.hd_length x.hd r2 r3
  unfold Seal.Ct.bytes
  simp only [List.length_append]
  omega
set_option maxHeartbeats 16000000 in
theorem walk (wd : Wd) (A : Option Addr) (ca : Nat) (q s : Value) (w : World) (KW : Keys w) (hd : WdV w wd A ca q s) :
    Calls Tryz.prog 4 #[.agg #[.slice A wd.recs.length ca, q, s, .int .i64 wd.which, .string (bs wd.key)]] w fun e w' => e = .returned (.bool true) ∧ Ext w w' := by
  obtain ⟨hd1, hd2, hd3, hd4, hd5, hd6, hd7, hd8, hd9⟩ := hd
  by_cases hne : wd.recs = []
  · skip
    have hl0 : wd.recs.length = 0 := by rw [hne]; rfl
    rw [hl0]
    have hZF : (Seal.zF : Fz).root.length = 32 := by rfl
    have hW : Blk (w.alloc (.cells #[.slice A 0 ca, q, s, .int .i64 wd.which, .string (bs wd.key)] 25)) w.heap.size 25 #[.slice A 0 ca, q, s, .int .i64 wd.which, .string (bs wd.key)] := Blk.new w _ _
    have hE : Ext w (w.alloc (.cells #[.slice A 0 ca, q, s, .int .i64 wd.which, .string (bs wd.key)] 25)) := (Ext.refl w).alloc _
    go_enter Tryz.func4, Tryz.ntmps4
    go_wp2_with fail
    change Calls _ _ _ (w.alloc (.cells #[.slice A 0 ca, q, s, .int .i64 wd.which, .string (bs wd.key)] 25)) _
    generalize w.alloc (.cells #[.slice A 0 ca, q, s, .int .i64 wd.which, .string (bs wd.key)] 25) = w0 at *
    refine (awake19_calls _).mono ?_; rintro e w1 ⟨rfl, e1⟩
    replace hW := Blk.below hW e1 (Blk.lt hW)
    replace hE := hE.trans e1
    clear e1
    go_wp2_with (refine stop_load 25 (.tmp 1) rfl ?_)
    refine ⟨?_⟩
    refine wpList_load_row rfl 25 (.tmp 1) rfl w.heap.size (by rfl) 25 _ (0, 0) _ hW Tryz.underlying25 rfl (by kernel_rfl) ?_
    simp only [Act.put, List.setIfInBounds_toArray, List.set_cons_zero, List.set_cons_succ]
    go_wp2_with fail
    refine (cited_none A ca q s wd.which wd.key _).mono ?_; rintro e w4 ⟨rfl, e4⟩
    replace hE := hE.trans e4
    clear e4
    go_wp2_with (refine stop_store 34 (.tmp 4) (.tmp 16) rfl ?_)
    refine ⟨?_⟩
    change wpList _ _ _ _ _ ((w4.alloc (.cells (citeC Seal.zF (.slice none 0 0) 0 (.slice none 0 0) Seal.zH).toArray 34)).alloc (.cells #[.int .i64 0, .int .i64 0, .int .i64 0, .string ⟨#[]⟩] 36))
    have hC0 : Blk ((w4.alloc (.cells (citeC Seal.zF (.slice none 0 0) 0 (.slice none 0 0) Seal.zH).toArray 34)).alloc (.cells #[.int .i64 0, .int .i64 0, .int .i64 0, .string ⟨#[]⟩] 36)) w4.heap.size 34 (citeC Seal.zF (.slice none 0 0) 0 (.slice none 0 0) Seal.zH).toArray := Blk.alloc (Blk.new w4 _ _) _
    have hR0 : RecAt ((w4.alloc (.cells (citeC Seal.zF (.slice none 0 0) 0 (.slice none 0 0) Seal.zH).toArray 34)).alloc (.cells #[.int .i64 0, .int .i64 0, .int .i64 0, .string ⟨#[]⟩] 36)) (w4.heap.size + 1) ⟨0, 0, 0, []⟩ := by
      have := Blk.new (w4.alloc (.cells (citeC Seal.zF (.slice none 0 0) 0 (.slice none 0 0) Seal.zH).toArray 34)) 36 #[.int .i64 0, .int .i64 0, .int .i64 0, .string ⟨#[]⟩]
      rw [alloc_size] at this
      exact this
    have eA : Ext w4 ((w4.alloc (.cells (citeC Seal.zF (.slice none 0 0) 0 (.slice none 0 0) Seal.zH).toArray 34)).alloc (.cells #[.int .i64 0, .int .i64 0, .int .i64 0, .string ⟨#[]⟩] 36)) := ((Ext.refl w4).alloc _).alloc _
    refine wpList_store_row rfl 34 (.tmp 4) (.tmp 16) rfl w4.heap.size (citeC Seal.zF (.slice none 0 0) 0 (.slice none 0 0) Seal.zH).toArray (by rfl) (by rfl) 34 _ hC0 (size_ct (by rfl) (by rfl) (by rfl)) (by simp only [List.size_toArray] <;> (try (rw [citeC_length (by rfl) (by rfl) (by rfl)] <;> (try rfl)))) (all_oneCell_toArray (citeC_one (by rfl) (by rfl))) ?_
    simp only [Act.put, List.setIfInBounds_toArray, List.set_cons_zero, List.set_cons_succ]
    have hC1 : CiteAt ((((w4.alloc (.cells (citeC Seal.zF (.slice none 0 0) 0 (.slice none 0 0) Seal.zH).toArray 34)).alloc (.cells #[.int .i64 0, .int .i64 0, .int .i64 0, .string ⟨#[]⟩] 36))).setRow w4.heap.size (citeC Seal.zF (.slice none 0 0) 0 (.slice none 0 0) Seal.zH).toArray) w4.heap.size Seal.zF (.slice none 0 0) 0 (.slice none 0 0) Seal.zH := Blk.row hC0 _
    have hR1 : RecAt ((((w4.alloc (.cells (citeC Seal.zF (.slice none 0 0) 0 (.slice none 0 0) Seal.zH).toArray 34)).alloc (.cells #[.int .i64 0, .int .i64 0, .int .i64 0, .string ⟨#[]⟩] 36))).setRow w4.heap.size (citeC Seal.zF (.slice none 0 0) 0 (.slice none 0 0) Seal.zH).toArray) (w4.heap.size + 1) ⟨0, 0, 0, []⟩ := Blk.rowFar hR0 (by omega) _
    refine wpList_store_row rfl 36 (.tmp 5) (.tmp 17) rfl (w4.heap.size + 1) #[.int .i64 (⟨0, 0, 0, []⟩ : Rc).win, .int .i64 (⟨0, 0, 0, []⟩ : Rc).idx, .int .i64 (⟨0, 0, 0, []⟩ : Rc).time, .string (bs (⟨0, 0, 0, []⟩ : Rc).pay)] (by rfl) (by rfl) 36 _ hR1 (size_rc (⟨0, 0, 0, []⟩ : Rc)) (by rfl) (by simp [Value.oneCell']) ?_
    simp only [Act.put, List.setIfInBounds_toArray, List.set_cons_zero, List.set_cons_succ]
    have hC : CiteAt (((((w4.alloc (.cells (citeC Seal.zF (.slice none 0 0) 0 (.slice none 0 0) Seal.zH).toArray 34)).alloc (.cells #[.int .i64 0, .int .i64 0, .int .i64 0, .string ⟨#[]⟩] 36))).setRow w4.heap.size (citeC Seal.zF (.slice none 0 0) 0 (.slice none 0 0) Seal.zH).toArray).setRow (w4.heap.size + 1) #[.int .i64 (⟨0, 0, 0, []⟩ : Rc).win, .int .i64 (⟨0, 0, 0, []⟩ : Rc).idx, .int .i64 (⟨0, 0, 0, []⟩ : Rc).time, .string (bs (⟨0, 0, 0, []⟩ : Rc).pay)]) w4.heap.size Seal.zF (.slice none 0 0) 0 (.slice none 0 0) Seal.zH := Blk.rowFar hC1 (by omega) _
    have hR : RecAt (((((w4.alloc (.cells (citeC Seal.zF (.slice none 0 0) 0 (.slice none 0 0) Seal.zH).toArray 34)).alloc (.cells #[.int .i64 0, .int .i64 0, .int .i64 0, .string ⟨#[]⟩] 36))).setRow w4.heap.size (citeC Seal.zF (.slice none 0 0) 0 (.slice none 0 0) Seal.zH).toArray).setRow (w4.heap.size + 1) #[.int .i64 (⟨0, 0, 0, []⟩ : Rc).win, .int .i64 (⟨0, 0, 0, []⟩ : Rc).idx, .int .i64 (⟨0, 0, 0, []⟩ : Rc).time, .string (bs (⟨0, 0, 0, []⟩ : Rc).pay)]) (w4.heap.size + 1) (⟨0, 0, 0, []⟩ : Rc) := Blk.row hR1 _
    have e9 : Ext w4 (((((w4.alloc (.cells (citeC Seal.zF (.slice none 0 0) 0 (.slice none 0 0) Seal.zH).toArray 34)).alloc (.cells #[.int .i64 0, .int .i64 0, .int .i64 0, .string ⟨#[]⟩] 36))).setRow w4.heap.size (citeC Seal.zF (.slice none 0 0) 0 (.slice none 0 0) Seal.zH).toArray).setRow (w4.heap.size + 1) #[.int .i64 (⟨0, 0, 0, []⟩ : Rc).win, .int .i64 (⟨0, 0, 0, []⟩ : Rc).idx, .int .i64 (⟨0, 0, 0, []⟩ : Rc).time, .string (bs (⟨0, 0, 0, []⟩ : Rc).pay)]) := (eA.row (Nat.le_refl _) _).row (Nat.le_succ _) _
    clear hC0 hR0 hC1 hR1 eA
    generalize ((((w4.alloc (.cells (citeC Seal.zF (.slice none 0 0) 0 (.slice none 0 0) Seal.zH).toArray 34)).alloc (.cells #[.int .i64 0, .int .i64 0, .int .i64 0, .string ⟨#[]⟩] 36))).setRow w4.heap.size (citeC Seal.zF (.slice none 0 0) 0 (.slice none 0 0) Seal.zH).toArray).setRow (w4.heap.size + 1) #[.int .i64 (⟨0, 0, 0, []⟩ : Rc).win, .int .i64 (⟨0, 0, 0, []⟩ : Rc).idx, .int .i64 (⟨0, 0, 0, []⟩ : Rc).time, .string (bs (⟨0, 0, 0, []⟩ : Rc).pay)] = w5 at *
    obtain ⟨gC, hgC⟩ : ∃ g, g = w4.heap.size := ⟨_, rfl⟩
    rw [← hgC] at hC hR
    try rw [← hgC]
    clear hgC
    replace hE := hE.trans e9
    go_wp2_with fail
    go_ret
    exact ⟨rfl, hE⟩
  · skip
    have hW : Blk (w.alloc (.cells #[.slice A wd.recs.length ca, q, s, .int .i64 wd.which, .string (bs wd.key)] 25)) w.heap.size 25 #[.slice A wd.recs.length ca, q, s, .int .i64 wd.which, .string (bs wd.key)] := Blk.new w _ _
    have hE : Ext w (w.alloc (.cells #[.slice A wd.recs.length ca, q, s, .int .i64 wd.which, .string (bs wd.key)] 25)) := (Ext.refl w).alloc _
    go_enter Tryz.func4, Tryz.ntmps4
    go_wp2_with fail
    change Calls _ _ _ (w.alloc (.cells #[.slice A wd.recs.length ca, q, s, .int .i64 wd.which, .string (bs wd.key)] 25)) _
    generalize w.alloc (.cells #[.slice A wd.recs.length ca, q, s, .int .i64 wd.which, .string (bs wd.key)] 25) = w0 at *
    refine (awake19_calls _).mono ?_; rintro e w1 ⟨rfl, e1⟩
    replace hW := Blk.below hW e1 (Blk.lt hW)
    replace hE := hE.trans e1
    clear e1
    go_wp2_with (refine stop_load 25 (.tmp 1) rfl ?_)
    refine ⟨?_⟩
    refine wpList_load_row rfl 25 (.tmp 1) rfl w.heap.size (by rfl) 25 _ (0, 0) _ hW Tryz.underlying25 rfl (by kernel_rfl) ?_
    simp only [Act.put, List.setIfInBounds_toArray, List.set_cons_zero, List.set_cons_succ]
    go_wp2_with fail
    refine (cited_more wd hd1 hd2 hd3 hd4 A ca q s hd5 hd6 _ (hd7.below hE (Nat.le_refl _) |>.more hE.size) (hd8.ext hE) (hd9.ext hE) hne).mono ?_; rintro e w4 ⟨P, Q, rfl, hP, hQ, e4⟩
    replace hW := Blk.below hW e4 (Blk.lt hW)
    replace hE := hE.trans e4
    obtain ⟨AP, cP, rfl⟩ : ∃ A c, P = .slice A wd.cite.path.length c := by
      obtain ⟨A, c, e, _⟩ := hP
      exact ⟨A, c, e⟩
    obtain ⟨AQ, cQ, rfl⟩ : ∃ A c, Q = .slice A wd.cite.super.length c := by
      obtain ⟨A, c, e, _⟩ := hQ
      exact ⟨A, c, e⟩
    clear e4
    have hmay := wd_may wd hne
    have hsg := wd_signed wd hne
    obtain ⟨kk, hkk⟩ : ∃ k, k = wd.key.take 40 := ⟨_, rfl⟩
    have hkl : kk.length ≤ 40 := by rw [hkk, List.length_take]; omega
    rw [← hkk] at hsg
    have Hkk := Lib.hid hkk
    clear hkk
    have hfit := wd.cite_fit
    have hpay := wd.rec_pay hne
    have hright := wd.right hne
    generalize wd.cite = c at *
    generalize wd.rec_ = r at *
    obtain ⟨r1, r2, r3, -, -⟩ := id hfit.1
    have hrk : rightCB kk r c = true := by rw [hright kk]; exact hsg
    have hck : leafRightB kk r.win r.idx (leafB r.outB) c = true := by
      unfold rightCB at hrk
      rw [Bool.and_eq_true] at hrk
      exact hrk.2
    have hB := fun w h1 h2 => citeBytes_calls c hfit.1 (.slice AP c.path.length cP) (.slice AQ c.super.length cQ) w h1 h2
    rw [c.outB_ok hmay, c.outE_ok hmay] at hB
    have hrd := Seal.Ct.read_bytes c hmay hfit.1
    have q1 : Seal.Ct.readC c.bytes = c := by unfold Seal.Ct.readC; rw [hrd]; rfl
    have q2 : Seal.Ct.readE c.bytes = 0 := by unfold Seal.Ct.readE; rw [hrd]; rfl
    have hRd := fun w => citeRead_calls c.bytes (ct_length c hmay hfit.1) w
    rw [q1, q2] at hRd
    generalize c.bytes = cb at *
    have HR := fun P Q w KW h1 h2 => ctRight_calls kk (by omega) r (by omega) c hfit P Q w KW h1 h2
    rw [hrk] at HR
    have hll : (leafB r.outB).length = 32 := leafB_length _
    have HLf := fun w => refRecLeaf_calls r w (by omega)
    have HLR := fun P Q w KW h1 h2 => ctLeafRight_calls kk (by omega) r.win r.idx (leafB r.outB) hll c hfit P Q w KW h1 h2
    rw [hck] at HLR
    have HSm := fun P Q R S w h1 h2 h3 h4 => ctSame_calls c c hfit.1 hfit.1 P Q R S w h1 h2 h3 h4
    rw [show decide (c = c) = true by simp] at HSm
    generalize leafB r.outB = lf at *
    have H1 := Lib.hid hB; have H2 := Lib.hid hRd; have H3 := Lib.hid HR; have H4 := Lib.hid HLf; have H5 := Lib.hid HLR; have H6 := Lib.hid HSm
    clear hB hRd HR HLf HLR HSm hrd q1 q2 hright hsg hrk hck
    have c1 := r1
    have c2 := r2
    have c3 := r3
    go_wp2_with (refine stop_store 34 (.tmp 4) (.tmp 16) rfl ?_)
    refine ⟨?_⟩
    change wpList _ _ _ _ _ ((w4.alloc (.cells (citeC Seal.zF (.slice none 0 0) 0 (.slice none 0 0) Seal.zH).toArray 34)).alloc (.cells #[.int .i64 0, .int .i64 0, .int .i64 0, .string ⟨#[]⟩] 36))
    have hC0 : Blk ((w4.alloc (.cells (citeC Seal.zF (.slice none 0 0) 0 (.slice none 0 0) Seal.zH).toArray 34)).alloc (.cells #[.int .i64 0, .int .i64 0, .int .i64 0, .string ⟨#[]⟩] 36)) w4.heap.size 34 (citeC Seal.zF (.slice none 0 0) 0 (.slice none 0 0) Seal.zH).toArray := Blk.alloc (Blk.new w4 _ _) _
    have hR0 : RecAt ((w4.alloc (.cells (citeC Seal.zF (.slice none 0 0) 0 (.slice none 0 0) Seal.zH).toArray 34)).alloc (.cells #[.int .i64 0, .int .i64 0, .int .i64 0, .string ⟨#[]⟩] 36)) (w4.heap.size + 1) ⟨0, 0, 0, []⟩ := by
      have := Blk.new (w4.alloc (.cells (citeC Seal.zF (.slice none 0 0) 0 (.slice none 0 0) Seal.zH).toArray 34)) 36 #[.int .i64 0, .int .i64 0, .int .i64 0, .string ⟨#[]⟩]
      rw [alloc_size] at this
      exact this
    have eA : Ext w4 ((w4.alloc (.cells (citeC Seal.zF (.slice none 0 0) 0 (.slice none 0 0) Seal.zH).toArray 34)).alloc (.cells #[.int .i64 0, .int .i64 0, .int .i64 0, .string ⟨#[]⟩] 36)) := ((Ext.refl w4).alloc _).alloc _
    refine wpList_store_row rfl 34 (.tmp 4) (.tmp 16) rfl w4.heap.size (citeC c.fz (.slice AP c.path.length cP) c.place (.slice AQ c.super.length cQ) c.hd).toArray (by rfl) (by rfl) 34 _ hC0 (size_ct r1 r2 r3) (by simp only [List.size_toArray] <;> (try (rw [citeC_length r1 r2 r3] <;> (try rfl)))) (all_oneCell_toArray (citeC_one (by rfl) (by rfl))) ?_
    simp only [Act.put, List.setIfInBounds_toArray, List.set_cons_zero, List.set_cons_succ]
    have hC1 : CiteAt ((((w4.alloc (.cells (citeC Seal.zF (.slice none 0 0) 0 (.slice none 0 0) Seal.zH).toArray 34)).alloc (.cells #[.int .i64 0, .int .i64 0, .int .i64 0, .string ⟨#[]⟩] 36))).setRow w4.heap.size (citeC c.fz (.slice AP c.path.length cP) c.place (.slice AQ c.super.length cQ) c.hd).toArray) w4.heap.size c.fz (.slice AP c.path.length cP) c.place (.slice AQ c.super.length cQ) c.hd := Blk.row hC0 _
    have hR1 : RecAt ((((w4.alloc (.cells (citeC Seal.zF (.slice none 0 0) 0 (.slice none 0 0) Seal.zH).toArray 34)).alloc (.cells #[.int .i64 0, .int .i64 0, .int .i64 0, .string ⟨#[]⟩] 36))).setRow w4.heap.size (citeC c.fz (.slice AP c.path.length cP) c.place (.slice AQ c.super.length cQ) c.hd).toArray) (w4.heap.size + 1) ⟨0, 0, 0, []⟩ := Blk.rowFar hR0 (by omega) _
    refine wpList_store_row rfl 36 (.tmp 5) (.tmp 17) rfl (w4.heap.size + 1) #[.int .i64 r.win, .int .i64 r.idx, .int .i64 r.time, .string (bs r.pay)] (by rfl) (by rfl) 36 _ hR1 (size_rc r) (by rfl) (by simp [Value.oneCell']) ?_
    simp only [Act.put, List.setIfInBounds_toArray, List.set_cons_zero, List.set_cons_succ]
    have hC : CiteAt (((((w4.alloc (.cells (citeC Seal.zF (.slice none 0 0) 0 (.slice none 0 0) Seal.zH).toArray 34)).alloc (.cells #[.int .i64 0, .int .i64 0, .int .i64 0, .string ⟨#[]⟩] 36))).setRow w4.heap.size (citeC c.fz (.slice AP c.path.length cP) c.place (.slice AQ c.super.length cQ) c.hd).toArray).setRow (w4.heap.size + 1) #[.int .i64 r.win, .int .i64 r.idx, .int .i64 r.time, .string (bs r.pay)]) w4.heap.size c.fz (.slice AP c.path.length cP) c.place (.slice AQ c.super.length cQ) c.hd := Blk.rowFar hC1 (by omega) _
    have hR : RecAt (((((w4.alloc (.cells (citeC Seal.zF (.slice none 0 0) 0 (.slice none 0 0) Seal.zH).toArray 34)).alloc (.cells #[.int .i64 0, .int .i64 0, .int .i64 0, .string ⟨#[]⟩] 36))).setRow w4.heap.size (citeC c.fz (.slice AP c.path.length cP) c.place (.slice AQ c.super.length cQ) c.hd).toArray).setRow (w4.heap.size + 1) #[.int .i64 r.win, .int .i64 r.idx, .int .i64 r.time, .string (bs r.pay)]) (w4.heap.size + 1) r := Blk.row hR1 _
    have e9 : Ext w4 (((((w4.alloc (.cells (citeC Seal.zF (.slice none 0 0) 0 (.slice none 0 0) Seal.zH).toArray 34)).alloc (.cells #[.int .i64 0, .int .i64 0, .int .i64 0, .string ⟨#[]⟩] 36))).setRow w4.heap.size (citeC c.fz (.slice AP c.path.length cP) c.place (.slice AQ c.super.length cQ) c.hd).toArray).setRow (w4.heap.size + 1) #[.int .i64 r.win, .int .i64 r.idx, .int .i64 r.time, .string (bs r.pay)]) := (eA.row (Nat.le_refl _) _).row (Nat.le_succ _) _
    clear hC0 hR0 hC1 hR1 eA
    generalize ((((w4.alloc (.cells (citeC Seal.zF (.slice none 0 0) 0 (.slice none 0 0) Seal.zH).toArray 34)).alloc (.cells #[.int .i64 0, .int .i64 0, .int .i64 0, .string ⟨#[]⟩] 36))).setRow w4.heap.size (citeC c.fz (.slice AP c.path.length cP) c.place (.slice AQ c.super.length cQ) c.hd).toArray).setRow (w4.heap.size + 1) #[.int .i64 r.win, .int .i64 r.idx, .int .i64 r.time, .string (bs r.pay)] = w5 at *
    obtain ⟨gC, hgC⟩ : ∃ g, g = w4.heap.size := ⟨_, rfl⟩
    rw [← hgC] at hC hR
    try rw [← hgC]
    clear hgC
    replace hP := hP.ext e9
    replace hQ := hQ.ext e9
    replace hW := Blk.below hW e9 (Blk.lt hW)
    replace hE := hE.trans e9
    clear e9
    have k4 := Blk.cell hW 4
    have k4' : w5.cell? ⟨w.heap.size, 4, none⟩ = some (.string (bs wd.key)) := k4
    clear k4 hW
    go_wp2_with fail
    refine (short19_calls wd.key 40 _ hd2 (by omega)).mono ?_; rw [← Hkk.out]; rintro e w' ⟨rfl, rfl⟩
    clear k4'
    go_wp2_with (refine stop_load 34 (.tmp 4) rfl ?_)
    refine ⟨?_⟩
    refine wpList_load_row rfl 34 (.tmp 4) rfl gC (by rfl) 34 _ (0, 0) _ hC Tryz.underlying34 rfl (size_ct r1 r2 r3) ?_
    simp only [Act.put, List.setIfInBounds_toArray, List.set_cons_zero, List.set_cons_succ]
    go_wp2_with fail
    change Calls _ _ #[citeV c.fz (.slice AP c.path.length cP) c.place (.slice AQ c.super.length cQ) c.hd] _ _
    refine (H1.out _ hP.sl hQ.sl).mono ?_; rintro e v61 ⟨rfl, e62⟩
    replace hC := hC.ext e62
    replace hR := hR.ext e62
    replace hP := hP.ext e62
    replace hQ := hQ.ext e62
    have sz62 := e62.size
    replace hE := hE.trans e62
    clear e62
    go_wp2_with fail
    refine (H2.out _).mono ?_; rintro e w6 ⟨P2, Q2, rfl, hP2, hQ2, e6⟩
    obtain ⟨A2, c2', rfl⟩ : ∃ A z, P2 = .slice A c.path.length z := by
      obtain ⟨A, z, e, _⟩ := hP2
      exact ⟨A, z, e⟩
    obtain ⟨B2, d2', rfl⟩ : ∃ A z, Q2 = .slice A c.super.length z := by
      obtain ⟨A, z, e, _⟩ := hQ2
      exact ⟨A, z, e⟩
    replace hC := hC.ext e6
    replace hR := hR.ext e6
    replace hP := hP.ext e6
    replace hQ := hQ.ext e6
    have sz62 := e6.size
    replace hE := hE.trans e6
    clear e6
    go_wp2_with (refine stop_store 34 (.tmp 10) (.tmp 33) rfl ?_)
    refine ⟨?_⟩
    change wpList _ _ _ _ _ (w6.alloc (.cells (citeC Seal.zF (.slice none 0 0) 0 (.slice none 0 0) Seal.zH).toArray 34))
    have hD0 : Blk (w6.alloc (.cells (citeC Seal.zF (.slice none 0 0) 0 (.slice none 0 0) Seal.zH).toArray 34)) w6.heap.size 34 (citeC Seal.zF (.slice none 0 0) 0 (.slice none 0 0) Seal.zH).toArray := Blk.new w6 _ _
    have e65a := (Ext.refl w6).alloc (.cells (citeC Seal.zF (.slice none 0 0) 0 (.slice none 0 0) Seal.zH).toArray 34)
    obtain ⟨g64, g64e⟩ : ∃ g64, g64 = w6.heap.size := ⟨_, rfl⟩
    rw [← g64e] at hD0
    try rw [← g64e]
    have g64b : w6.heap.size ≤ g64 := by omega
    generalize w6.alloc (.cells (citeC Seal.zF (.slice none 0 0) 0 (.slice none 0 0) Seal.zH).toArray 34) = v63' at *
    refine wpList_store_row rfl 34 (.tmp 10) (.tmp 33) rfl g64 (citeC c.fz (.slice A2 c.path.length c2') c.place (.slice B2 c.super.length d2') c.hd).toArray (by rfl) (by rfl) 34 _ hD0 (size_ct r1 r2 r3) (by simp only [List.size_toArray]; rw [citeC_length r1 r2 r3]; rfl) (all_oneCell_toArray (citeC_one (by rfl) (by rfl))) ?_
    simp only [Act.put, List.setIfInBounds_toArray, List.set_cons_zero, List.set_cons_succ]
    have hD : CiteAt (v63'.setRow g64 (citeC c.fz (.slice A2 c.path.length c2') c.place (.slice B2 c.super.length d2') c.hd).toArray) g64 c.fz (.slice A2 c.path.length c2') c.place (.slice B2 c.super.length d2') c.hd := Blk.row hD0 _
    have e65 : Ext w6 (v63'.setRow g64 (citeC c.fz (.slice A2 c.path.length c2') c.place (.slice B2 c.super.length d2') c.hd).toArray) := e65a.row g64b _
    clear hD0 e65a g64e
    generalize v63'.setRow g64 (citeC c.fz (.slice A2 c.path.length c2') c.place (.slice B2 c.super.length d2') c.hd).toArray = v63 at *
    clear v63' 
    replace hC := hC.ext e65
    replace hR := hR.ext e65
    replace hP := hP.ext e65
    replace hQ := hQ.ext e65
    replace hP2 := hP2.ext e65
    replace hQ2 := hQ2.ext e65
    have sz65 := e65.size
    replace hE := hE.trans e65
    clear e65
    have hlC := hC.lt
    have hlR := Blk.lt hR
    have hlD := hD.lt
    have hsz := size_rc r
    obtain ⟨k0, k1, -, -⟩ := hR.cells
    have hPx : ∀ y : More v63, SlS (grow v63 y) (grow v63 y).heap.size (.slice AP c.path.length cP) c.path := fun y => (hP.ext (grow_ext y)).sl
    have hQx : ∀ y : More v63, SlS (grow v63 y) (grow v63 y).heap.size (.slice AQ c.super.length cQ) c.super := fun y => (hQ.ext (grow_ext y)).sl
    have hPy : ∀ y : More v63, SlS (grow v63 y) (grow v63 y).heap.size (.slice A2 c.path.length c2') c.path := fun y => hP2.ext (grow_ext y)
    have hQy : ∀ y : More v63, SlS (grow v63 y) (grow v63 y).heap.size (.slice B2 c.super.length d2') c.super := fun y => hQ2.ext (grow_ext y)
    have hKx : ∀ y : More v63, Keys (grow v63 y) := fun y => (KW.ext hE).ext (grow_ext y)
    go_upto_region 8 with fail
    refine region_mix0 (by kernel_rfl) (by kernel_rfl) (fun x0 => ?_)
    iterate 11 (first | (refine mix_quiet (by rfl) (by rfl) (fun K hK => ?_); go_big_quiet_op; refine hK _ ?_; clear hK K) | (refine mix_skip (by rfl) ?_; simp only [Act.put, List.setIfInBounds_toArray, List.set_cons_zero, List.set_cons_succ]))
    refine mix_row (by rfl) (by rfl) 36 (.tmp 5) rfl (gC + 1) (by rfl) _ _ _ hR Tryz.underlying36 rfl hsz ?_
    simp only [Act.put, List.setIfInBounds_toArray, List.set_cons_zero, List.set_cons_succ]
    refine mix_row (by rfl) (by rfl) 34 (.tmp 4) rfl gC (by rfl) _ _ _ hC Tryz.underlying34 rfl (size_ct r1 r2 r3) ?_
    simp only [Act.put, List.setIfInBounds_toArray, List.set_cons_zero, List.set_cons_succ]
    (refine mix_loud (by rfl) (by rfl) (fun K E hK => ?_); go_big_op)
    change Calls _ _ #[.string (bs kk), r.v, citeV c.fz (.slice AP c.path.length cP) c.place (.slice AQ c.super.length cQ) c.hd] _ _
    refine (H3.out _ _ _ (hKx _) (hPx _) (hQx _)).mono ?_; rintro e w3 ⟨rfl, hd'⟩
    obtain ⟨x1, rfl⟩ := more_ext x0 hd'
    refine hK _ _ ⟨_, rfl⟩ ?_; clear hK K E hd'
    iterate 3 (first | (refine mix_quiet (by rfl) (by rfl) (fun K hK => ?_); go_big_quiet_op; refine hK _ ?_; clear hK K) | (refine mix_skip (by rfl) ?_; simp only [Act.put, List.setIfInBounds_toArray, List.set_cons_zero, List.set_cons_succ]))
    refine mix_row (by rfl) (by rfl) 36 (.tmp 5) rfl (gC + 1) (by rfl) _ _ _ hR Tryz.underlying36 rfl hsz ?_
    simp only [Act.put, List.setIfInBounds_toArray, List.set_cons_zero, List.set_cons_succ]
    refine mix_row (by rfl) (by rfl) 34 (.tmp 10) rfl g64 (by rfl) _ _ _ hD Tryz.underlying34 rfl (size_ct r1 r2 r3) ?_
    simp only [Act.put, List.setIfInBounds_toArray, List.set_cons_zero, List.set_cons_succ]
    (refine mix_loud (by rfl) (by rfl) (fun K E hK => ?_); go_big_op)
    change Calls _ _ #[.string (bs kk), r.v, citeV c.fz (.slice A2 c.path.length c2') c.place (.slice B2 c.super.length d2') c.hd] _ _
    refine (H3.out _ _ _ (hKx _) (hPy _) (hQy _)).mono ?_; rintro e w3 ⟨rfl, hd'⟩
    obtain ⟨x2, rfl⟩ := more_ext x1 hd'
    refine hK _ _ ⟨_, rfl⟩ ?_; clear hK K E hd'
    iterate 7 (first | (refine mix_quiet (by rfl) (by rfl) (fun K hK => ?_); go_big_quiet_op; refine hK _ ?_; clear hK K) | (refine mix_skip (by rfl) ?_; simp only [Act.put, List.setIfInBounds_toArray, List.set_cons_zero, List.set_cons_succ]))
    refine mix_row (by rfl) (by rfl) 36 (.tmp 5) rfl (gC + 1) (by rfl) _ _ _ hR Tryz.underlying36 rfl hsz ?_
    simp only [Act.put, List.setIfInBounds_toArray, List.set_cons_zero, List.set_cons_succ]
    (refine mix_loud (by rfl) (by rfl) (fun K E hK => ?_); go_big_op)
    change Calls _ _ #[r.v] _ _
    refine (H4.out _).mono ?_; rintro e w3 ⟨rfl, hd'⟩
    obtain ⟨x3, rfl⟩ := more_ext x2 hd'
    refine hK _ _ ⟨_, rfl⟩ ?_; clear hK K E hd'
    refine mix_row (by rfl) (by rfl) 34 (.tmp 10) rfl g64 (by rfl) _ _ _ hD Tryz.underlying34 rfl (size_ct r1 r2 r3) ?_
    simp only [Act.put, List.setIfInBounds_toArray, List.set_cons_zero, List.set_cons_succ]
    (refine mix_loud (by rfl) (by rfl) (fun K E hK => ?_); go_big_op)
    change Calls _ _ #[.string (bs kk), .int .i64 r.win, .int .i64 r.idx, sumV lf, citeV c.fz (.slice A2 c.path.length c2') c.place (.slice B2 c.super.length d2') c.hd] _ _
    refine (H5.out _ _ _ (hKx _) (hPy _) (hQy _)).mono ?_; rintro e w3 ⟨rfl, hd'⟩
    obtain ⟨x4, rfl⟩ := more_ext x3 hd'
    refine hK _ _ ⟨_, rfl⟩ ?_; clear hK K E hd'
    iterate 2 (first | (refine mix_quiet (by rfl) (by rfl) (fun K hK => ?_); go_big_quiet_op; refine hK _ ?_; clear hK K) | (refine mix_skip (by rfl) ?_; simp only [Act.put, List.setIfInBounds_toArray, List.set_cons_zero, List.set_cons_succ]))
    refine mix_row (by rfl) (by rfl) 34 (.tmp 4) rfl gC (by rfl) _ _ _ hC Tryz.underlying34 rfl (size_ct r1 r2 r3) ?_
    simp only [Act.put, List.setIfInBounds_toArray, List.set_cons_zero, List.set_cons_succ]
    refine mix_row (by rfl) (by rfl) 34 (.tmp 10) rfl g64 (by rfl) _ _ _ hD Tryz.underlying34 rfl (size_ct r1 r2 r3) ?_
    simp only [Act.put, List.setIfInBounds_toArray, List.set_cons_zero, List.set_cons_succ]
    (refine mix_loud (by rfl) (by rfl) (fun K E hK => ?_); go_big_op)
    change Calls _ _ #[citeV c.fz (.slice AP c.path.length cP) c.place (.slice AQ c.super.length cQ) c.hd, citeV c.fz (.slice A2 c.path.length c2') c.place (.slice B2 c.super.length d2') c.hd] _ _
    refine (H6.out _ _ _ _ _ (hPx _) (hQx _) (hPy _) (hQy _)).mono ?_; rintro e w3 ⟨rfl, hd'⟩
    obtain ⟨x5, rfl⟩ := more_ext x4 hd'
    refine hK _ _ ⟨_, rfl⟩ ?_; clear hK K E hd'
    repeat (first | (refine mix_quiet (by rfl) (by rfl) (fun K hK => ?_); go_big_quiet_op; refine hK _ ?_; clear hK K) | (refine mix_skip (by rfl) ?_; simp only [Act.put, List.setIfInBounds_toArray, List.set_cons_zero, List.set_cons_succ]))
    refine mix_nil ?_
    go_wp2_with fail
    go_ret
    exact ⟨rfl, hE.trans (grow_ext _)⟩

set_option maxRecDepth 100000 in
theorem contract (H : Type) (enc : TypeId × Value → H) (W : World) (base : Nat) (args : Array Value) (ds gs : List (DataW H)) (before : List MemPlace)
    (hval0 : ∀ (j : Nat) t v, Tryz.f4.params[j]? = some t → args[j]? = some v → Value.okWide Tryz.prog W .any base t v)
    (hW : DataW.Whole enc Tryz.prog Tryz.f4.params.toList Rows.citeRightSpec.vars false W args.toList ds gs before) (hL : laidMetH Tryz.prog Rows.citeRightRow.laid W) :
    Calls Tryz.prog 4 args W fun e W' => ∃ v, e = .returned v ∧ Rows.citeRightSpec.post enc Tryz.prog Tryz.f4 false true false false W args v W' := by
  have K : Keys W := keys_of hL
  have hval : ∀ (j : Nat) t v, Tryz.f4.params[j]? = some t → args[j]? = some v → Value.okWide Tryz.prog W .any base t v := hval0
  have hW' := hW
  obtain ⟨p, q, hA0, hV, rfl, hfz, hnd⟩ := hW
  have hA : DataW.TrodAll enc Tryz.prog W 0 (fun _ => true) true Tryz.f4.params.toList args.toList ds p := hA0
  rw [Tryz.params4] at hA hval
  obtain ⟨v0, vs0, d0, ds0, p0, q0, hargs, rfl, rfl, hx0, r0⟩ := trodAll_cons hA
  obtain ⟨rfl, rfl, rfl⟩ := trodAll_nil r0
  obtain rfl : args = #[v0] := by cases args; simp_all
  obtain ⟨rfl, rfl⟩ := trodVars_none hV
  obtain ⟨d, Ad, cd, qd, sd, rfl, hd⟩ := op_wd (hval 0 25 v0 rfl rfl) (tr_of hx0)
  refine (walk d Ad cd qd sd W K hd).mono fun e W' ⟨he, hg⟩ => ?_
  subst he
  exact ⟨_, rfl, law_post hW' rfl rfl (by kernel_rfl) rfl rfl rfl hg⟩

theorem laid_met (os : Os) : laidMet Tryz.prog Rows.citeRightRow.laid ((keysWorld os).forCall (fun _ _ => 0) ⟨#[], #[.agg #[.slice none 0 0, .slice none 0 0, .slice none 0 0, .int .i64 0, .string .empty]], []⟩).memory :=
  laidMet_of_run' 8 (by kernel_rfl) (by kernel_rfl)
theorem reads (os : Os) {H : Type} (enc : TypeId × Value → H) : ∃ x, DataW.whole enc Tryz.prog ((keysWorld os).forCall (fun _ _ => 0) ⟨#[], #[.agg #[.slice none 0 0, .slice none 0 0, .slice none 0 0, .int .i64 0, .string .empty]], []⟩).memory Tryz.f4.params.toList Rows.citeRightSpec.vars false (#[.agg #[.slice none 0 0, .slice none 0 0, .slice none 0 0, .int .i64 0, .string .empty]] : Array Value).toList 8 = some x :=
  Option.isSome_iff_exists.1 (by kernel_rfl)
set_option maxRecDepth 100000 in
theorem lifted (os : Os) (started : os.Started) (H : Type) (enc : TypeId × Value → H) (F : Stop.Interp) :
    ReturnsInHanded {} Tryz.checked os 4 .any ((OpenSpec.ofChange Rows.citeRightSpec).preRow enc Tryz.prog Tryz.f4 Rows.citeRightRow.domain false Rows.citeRightRow.laid) (((OpenSpec.ofChange Rows.citeRightSpec).at F).post enc Tryz.prog Tryz.f4 false true false false) := by
  obtain ⟨x, hx⟩ := reads os enc
  refine returnsInHanded_of_row (C := Tryz.checked) (s := OpenSpec.ofChange Rows.citeRightSpec) own_ started (by kernel_rfl) Tryz.func4
    (witness_row_at (enc := enc) (C := Tryz.checked) false (keysWorld os) #[.agg #[.slice none 0 0, .slice none 0 0, .slice none 0 0, .int .i64 0, .string .empty]] rfl (by kernel_rfl) (by kernel_rfl) (by kernel_rfl)
      (OpenSpec.preRow_of_cond 8 hx rfl (fun k hk => by cases hk) (by kernel_rfl) (laid_met os))) ?_
  intro W base args ds gs before hval hW _ _ _ hL _ _
  exact contract H enc W base args ds gs before hval hW hL

theorem said : Rows.CiteRightSaid :=
  OpenClaim.holds_of_cond 4 Tryz.f4 rfl rfl rfl rfl rfl rfl rfl ⟨rfl, rfl, rfl, rfl, rfl⟩ rfl rfl rfl rfl rfl (by kernel_rfl) Tryz.func4 (by kernel_rfl)
    (of_decide_eq_true (by kernel_rfl)) (by unfold Func.isWrapper; first | (rw [if_pos (by decide +kernel)]; kernel_rfl) | (rw [if_neg (by decide +kernel)]; exact ⟨rfl, rfl⟩))
    (fun os started H enc _ F => by rw [OpenClaim.pre_eq_preRow]; exact lifted os started H enc F)
theorem plain (f : FuncId) (fn : Func) (hf : Tryz.pinned.checked.prog.funcNamed "scrinium/scriniumlaw19.CiteRight" = some f) (hfn : Tryz.pinned.checked.prog.funcs[f]? = some fn) :
    false = Tryz.pinned.checked.prog.looks [] ∧ ∀ (j : Nat) t, fn.params[j]? = some t → Tryz.pinned.checked.prog.wantsStandIn t = false := by
  obtain rfl : f = 4 := Option.some.inj ((show Tryz.prog.funcNamed "scrinium/scriniumlaw19.CiteRight" = some 4 by kernel_rfl).symm.trans hf) |>.symm
  obtain rfl : fn = Tryz.f4 := (Option.some.inj (Tryz.func4.symm.trans hfn)).symm
  refine ⟨by kernel_rfl, fun j t ht => ?_⟩
  rw [Tryz.params4] at ht
  have hm : t ∈ ([25] : List TypeId) := by simpa using Array.mem_of_getElem? ht
  have hall : (([25] : List TypeId).all fun u => !Tryz.prog.wantsStandIn u) = true := by kernel_rfl
  exact (show Tryz.prog.wantsStandIn t = false by simpa using List.all_eq_true.1 hall t hm)
theorem proved : Rows.CiteRightCardSaid :=
  Claim7.holds_tied_plain_at .later [] _ _ _ _ said (fun _ h => by cases h) (by kernel_rfl) (fun _ h => by cases h) citeRight_row_tie rfl ⟨rfl, rfl⟩ (by kernel_rfl) rfl plain (by kernel_rfl)

end Go.Proofs.YtcgnjdkennkheaaGreatDoor.citeRight
