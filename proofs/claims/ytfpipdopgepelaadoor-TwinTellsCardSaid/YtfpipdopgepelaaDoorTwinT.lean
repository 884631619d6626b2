/-
  Twins: the walks of the document's Are, first, Leaves.
  Twins: the walks of the document's sides, linked, Trees.
-/
import Derived.Test.YtfpipdopgepelaaDoorTwinM
set_option linter.unusedVariables false
set_option maxRecDepth 100000
set_option linter.unusedSimpArgs false
set_option linter.unusedSectionVars false
namespace Go.Proofs.YtfpipdopgepelaaDoor
open Go.ChangeShapes Go.WideShapes Go.ChangeAt Go.RowKit
attribute [local go_sem] bs_size bs_toList2 bs_append bs_extract_end bs_extract_begin bs_get wrap64_b grow_cell grow_frozen

set_option maxHeartbeats 2000000 in
theorem refAre_calls (a b : List UInt8) (ha : a.length ≤ 4611686018427380000) (hb : b.length ≤ 4611686018427380000) (w : World) :
    Calls Tryd.prog 82 #[twV a b] w fun e w' => e = .returned (.bool (areB a b)) ∧ Ext w w' := by
  have hgw := guard_sum
  obtain ⟨r, hr⟩ : ∃ r, r = areB a b := ⟨_, rfl⟩
  rw [← hr]
  have HR := Lib.hid hr
  clear hr
  go_enter Tryd.func82, Tryd.ntmps82
  go_wp2_with fail
  have hT0 := Blk.new w 57 #[.string (bs a), .string (bs b)]
  have hE0 := (Ext.refl w).alloc (.cells #[.string (bs a), .string (bs b)] 57)
  generalize w.alloc (.cells #[.string (bs a), .string (bs b)] 57) = w0 at *
  have c0 : w0.cell? ⟨w.heap.size, 0, none⟩ = some (.string (bs a)) := Blk.cell hT0 0
  have c1 : w0.cell? ⟨w.heap.size, 1, none⟩ = some (.string (bs b)) := Blk.cell hT0 1
  have hgl := hT0.lt
  by_cases hab : a = b
  · subst hab
    have hr := HR.out
    rw [areB_same] at hr
    subst hr
    have hbb : (a == a) = true := by simp
    refine region_mix0 (by kernel_rfl) (by kernel_rfl) (fun y0 => ?_)
    repeat (first | (refine mix_quiet (by rfl) (by rfl) (fun K hK => ?_); go_big_quiet_op; refine hK _ ?_; clear hK K) | (refine mix_skip (by rfl) ?_; simp only [Act.put, List.setIfInBounds_toArray, List.set_cons_zero, List.set_cons_succ]))
    refine mix_nil ?_
    go_wp2_with fail
    go_ret
    exact ⟨rfl, hE0.trans (grow_ext _)⟩
  · have hbb : (a == b) = false := by rw [beq_eq_false_iff_ne]; exact hab
    obtain ⟨d, hd0⟩ : ∃ d, d = decide (shaOf a = shaOf b) := ⟨_, rfl⟩
    have har : r = d := by rw [HR.out]; unfold areB; rw [hbb, ← hd0]; rfl
    subst har
    have heq := fun w : World => eq_sum (shaOf a) (shaOf b) (shaOf_length a) (shaOf_length b) w
    rw [← hd0] at heq
    clear hd0 hab
    refine region_mix0 (by kernel_rfl) (by kernel_rfl) (fun y0 => ?_)
    iterate 8 (first | (refine mix_quiet (by rfl) (by rfl) (fun K hK => ?_); go_big_quiet_op; refine hK _ ?_; clear hK K) | (refine mix_skip (by rfl) ?_; simp only [Act.put, List.setIfInBounds_toArray, List.set_cons_zero, List.set_cons_succ]))
    (refine mix_loud (by rfl) (by rfl) (fun K E hK => ?_); go_big_op)
    refine (refOf_calls a _ (by omega)).mono ?_; rintro e w5 ⟨rfl, hd⟩
    obtain ⟨x', rfl⟩ := more_ext _ hd; clear hd
    refine hK _ _ ⟨_, rfl⟩ ?_; clear hK K E
    iterate 2 (first | (refine mix_quiet (by rfl) (by rfl) (fun K hK => ?_); go_big_quiet_op; refine hK _ ?_; clear hK K) | (refine mix_skip (by rfl) ?_; simp only [Act.put, List.setIfInBounds_toArray, List.set_cons_zero, List.set_cons_succ]))
    (refine mix_loud (by rfl) (by rfl) (fun K E hK => ?_); go_big_op)
    refine (refOf_calls b _ (by omega)).mono ?_; rintro e w5 ⟨rfl, hd⟩
    obtain ⟨x', rfl⟩ := more_ext _ hd; clear hd
    refine hK _ _ ⟨_, rfl⟩ ?_; clear hK K E
    unfold sumV
    repeat (first | (refine mix_quiet (by rfl) (by rfl) (fun K hK => ?_); go_big_quiet_op; refine hK _ ?_; clear hK K) | (refine mix_skip (by rfl) ?_; simp only [Act.put, List.setIfInBounds_toArray, List.set_cons_zero, List.set_cons_succ]))
    refine mix_nil ?_
    go_wp2_with fail
    go_ret
    exact ⟨rfl, hE0.trans (grow_ext _)⟩

set_option maxHeartbeats 4000000 in
theorem refFirst_calls (a b : List (List UInt8)) (ha : ∀ s ∈ a, s.length ≤ 4611686018427380000) (hb : ∀ s ∈ b, s.length ≤ 4611686018427380000) (hal : a.length ≤ 1000000) (hbl : b.length ≤ 1000000) (A1 A2 : Option Addr) (c1 c2 : Nat) (w : World) (hra : Rd w w.heap.size A1 (a.map strV)) (hrb : Rd w w.heap.size A2 (b.map strV)) :
    Calls Tryd.prog 65 #[.slice A1 a.length c1, .slice A2 b.length c2] w fun e w' => e = .returned (.tuple #[.agg (twC (firstO a b)), .bool (firstO a b).isSome]) ∧ Ext w w' := by
  obtain ⟨R, hR⟩ : ∃ R, R = firstO a b := ⟨_, rfl⟩
  rw [← hR]
  have HR := Lib.hid hR
  clear hR
  go_enter Tryd.func65, Tryd.ntmps65
  have hB0 : Blk (w.alloc (.cells #[.string (bs []), .string (bs [])] 57)) w.heap.size 57 #[.string (bs []), .string (bs [])] := Blk.new _ _ _
  have hE0 : Ext w (w.alloc (.cells #[.string (bs []), .string (bs [])] 57)) := (Ext.refl w).alloc _
  go_wp2_with fail
  change Code.wp _ _ _ _ (w.alloc (.cells #[.string (bs []), .string (bs [])] 57))
  generalize w.alloc (.cells #[.string (bs []), .string (bs [])] 57) = w1 at *
  go_loopw [6, 7, 8] (fun s6 _ _ wr => ∃ k : Nat, k ≤ a.length ∧ s6 = .int .i64 (k : Int) ∧ R = firstO (a.drop k) (b.drop k) ∧ Ext w1 wr) (fun s6 _ _ _ => a.length - (intOf s6).toNat)
  case atStart => exact ⟨0, Nat.zero_le _, rfl, HR.out, Ext.refl _⟩
  case round =>
    obtain ⟨wo, rfl⟩ : ∃ wo : World, wo = wr := ⟨_, rfl⟩
    obtain ⟨k, hk, rfl, hRk, hX⟩ := hrel
    have hE := hE0.trans hX
    have hB := Blk.below hB0 hX (Blk.lt hB0)
    have hBl := Blk.lt hB
    by_cases hin : k < a.length ∧ k < b.length
    · obtain ⟨hlt, hlb⟩ := hin
      have hlI : (k : Int) < (a.length : Int) := by omega
      have hbI : (k : Int) < (b.length : Int) := by omega
      obtain ⟨b1, o1, rfl, hb1, hm1⟩ := hra (map_ne strV hlt)
      obtain ⟨b2, o2, rfl, hb2, hm2⟩ := hrb (map_ne strV hlb)
      have q1 : wo.cell? ⟨b1, o1 + k, none⟩ = some (.string (bs a[k])) := ((ext_cells hE).1 b1 _ hb1).trans (hm1 k (strV a[k]) (by simp [hlt]))
      have q2 : wo.cell? ⟨b2, o2 + k, none⟩ = some (.string (bs b[k])) := ((ext_cells hE).1 b2 _ hb2).trans (hm2 k (strV b[k]) (by simp [hlb]))
      have hb1o : b1 < wo.heap.size := Nat.lt_of_lt_of_le hb1 hE.size
      have hb2o : b2 < wo.heap.size := Nat.lt_of_lt_of_le hb2 hE.size
      have hs := ha a[k] (List.getElem_mem hlt)
      have ht := hb b[k] (List.getElem_mem hlb)
      have Hst := Lib.hid (hRk.trans (first_step a b k hlt hlb))
      clear hRk hm1 hm2
      generalize a[k] = s at *
      generalize b[k] = t at *
      obtain ⟨r, hr⟩ : ∃ r, r = areB s t := ⟨_, rfl⟩
      have Hr := Lib.hid hr
      clear hr
      go_wp2_with fail
      refine region_mix0 (by kernel_rfl) (by kernel_rfl) (fun y0 => ?_)
      iterate 9 (first | (refine mix_quiet (by rfl) (by rfl) (fun K hK => ?_); go_big_quiet_op; refine hK _ ?_; clear hK K) | (refine mix_skip (by rfl) ?_; simp only [Act.put, List.setIfInBounds_toArray, List.set_cons_zero, List.set_cons_succ]))
      (refine mix_loud (by rfl) (by rfl) (fun K E hK => ?_); go_big_op)
      obtain ⟨y1, hy1⟩ := more_of ((grow_ext y0).alloc (.cells #[.string (bs []), .string (bs [])] 57))
      have hN := Blk.new (grow wo y0) 57 #[.string (bs []), .string (bs [])]
      have hgb : wo.heap.size ≤ (grow wo y0).heap.size := (grow_ext y0).size
      change K _ ((grow wo y0).alloc (.cells #[.string (bs []), .string (bs [])] 57))
      rw [hy1] at hN ⊢
      generalize (grow wo y0).heap.size = gN at *
      clear hy1
      refine hK _ _ ⟨_, rfl⟩ ?_; clear hK K E
      have hN0 : (grow wo y1).cell? ⟨gN, 0, none⟩ = some (.string (bs [])) := Blk.cell hN 0
      have hN1 : (grow wo y1).cell? ⟨gN, 1, none⟩ = some (.string (bs [])) := Blk.cell hN 1
      have f0 := Blk.frozen hN 0
      have f1 := Blk.frozen hN 1
      have hNl := Blk.lt hN
      (refine mix_loud (by rfl) (by rfl) (fun K E hK => ?_); go_big_op)
      obtain ⟨y2, hy2⟩ := more_of (((grow_ext y1).setCell (p := ⟨gN, 0, none⟩) hgb (.string (bs s))).setCell (p := ⟨gN, 1, none⟩) hgb (.string (bs t)))
      have hN2 := Blk.set_ (Blk.set_ hN 0 (.string (bs s))) 1 (.string (bs t))
      change K _ (((grow wo y1).setCell ⟨gN, 0, none⟩ (.string (bs s))).setCell ⟨gN, 1, none⟩ (.string (bs t)))
      rw [hy2] at hN2 ⊢
      refine hK _ _ ⟨_, rfl⟩ ?_; clear hK K E
      clear hy2 hN0 hN1 f0 f1 hNl hN
      refine mix_nil ?_
      have eF := grow_ext y2
      generalize grow wo y2 = w5 at *
      have hNs : Blk w5 gN 57 #[.string (bs s), .string (bs t)] := hN2
      have d0 : w5.cell? ⟨gN, 0, none⟩ = some (.string (bs s)) := Blk.cell hNs 0
      have d1 : w5.cell? ⟨gN, 1, none⟩ = some (.string (bs t)) := Blk.cell hNs 1
      have hNl := Blk.lt hNs
      replace hB := Blk.below hB eF (Blk.lt hB)
      replace hE := hE.trans eF
      replace hX := hX.trans eF
      clear eF hN2 q1 q2 hb1o hb2o hBl
      go_wp2_with fail
      change Calls _ _ #[twV s t] _ _
      refine (refAre_calls s t hs ht _).mono ?_; rw [← Hr.out]; rintro e w6 ⟨rfl, e6⟩
      replace hB := Blk.below hB e6 (Blk.lt hB)
      have hNs := Blk.below hNs e6 (Blk.lt hNs)
      replace hE := hE.trans e6
      replace hX := hX.trans e6
      clear e6 d0 d1 hNl
      cases r
      · have Hs2 := Lib.hid (show R = _ from Hst.out.trans (if_neg (by rw [← Hr.out]; simp)))
        have hXr : Ext w1 w6 := hX
        go_wp2_with fail
        go_roundw
        case rel =>
          first
            | exact ⟨k + 1, by omega, by go_num, Hs2.out, hXr⟩
            | (repeat apply Exists.intro
               refine ⟨?_, rfl⟩
               exact ⟨k + 1, by omega, by go_num, Hs2.out, hXr⟩)
        case measure => simp [intOf]; omega
      · obtain rfl : R = some (s, t) := Hst.out.trans (if_pos Hr.out.symm)
        have d0 : w6.cell? ⟨gN, 0, none⟩ = some (.string (bs s)) := Blk.cell hNs 0
        have d1 : w6.cell? ⟨gN, 1, none⟩ = some (.string (bs t)) := Blk.cell hNs 1
        have z0 : w6.cell? ⟨w.heap.size, 0, none⟩ = some (.string (bs [])) := Blk.cell hB 0
        have z1 : w6.cell? ⟨w.heap.size, 1, none⟩ = some (.string (bs [])) := Blk.cell hB 1
        have f0 := Blk.frozen hB 0
        have f1 := Blk.frozen hB 1
        have hNl := Blk.lt hNs
        have hBl := Blk.lt hB
        have hR5 := Blk.set_ (Blk.set_ hB 0 (.string (bs s))) 1 (.string (bs t))
        go_wp2_with fail
        (try simp only [Exit.inBlock, Exit.then]); refine bodyPost_ret (res_cell_t rfl _ _ w.heap.size 57 _ _ rfl hR5 Tryd.underlying57 rfl size_twins) rfl ?_
        exact ⟨rfl, (hE.setCell (Nat.le_refl _) _).setCell (Nat.le_refl _) _⟩
    · obtain rfl : R = none := hRk.trans (first_end a b k (by omega))
      clear hRk HR
      have z0 : wo.cell? ⟨w.heap.size, 0, none⟩ = some (.string (bs [])) := Blk.cell hB 0
      have z1 : wo.cell? ⟨w.heap.size, 1, none⟩ = some (.string (bs [])) := Blk.cell hB 1
      have f0 := Blk.frozen hB 0
      have f1 := Blk.frozen hB 1
      have hR5 := Blk.set_ (Blk.set_ hB 0 (.string ⟨#[]⟩)) 1 (.string ⟨#[]⟩)
      by_cases hlt : k < a.length
      · have hlI : (k : Int) < (a.length : Int) := by omega
        have hbI : ¬ (k : Int) < (b.length : Int) := by omega
        go_wp2_with fail
        (try simp only [Exit.inBlock, Exit.then]); refine bodyPost_ret (res_cell_t rfl _ _ w.heap.size 57 _ _ rfl hR5 Tryd.underlying57 rfl size_twins) rfl ?_
        exact ⟨rfl, (hE.setCell (Nat.le_refl _) _).setCell (Nat.le_refl _) _⟩
      · have hlI : ¬ (k : Int) < (a.length : Int) := by omega
        go_wp2_with fail
        (try simp only [Exit.inBlock, Exit.then]); refine bodyPost_ret (res_cell_t rfl _ _ w.heap.size 57 _ _ rfl hR5 Tryd.underlying57 rfl size_twins) rfl ?_
        exact ⟨rfl, (hE.setCell (Nat.le_refl _) _).setCell (Nat.le_refl _) _⟩

set_option maxHeartbeats 4000000 in
theorem refLeaves_calls (m n : Int) (x y : List UInt8) (hx : x.length = 32) (hy : y.length = 32) (va vb : Value) (a b : List (List UInt8)) (ha : AllH a) (hb : AllH b) (hal : a.length ≤ 1000000) (hbl : b.length ≤ 1000000) (w : World) (hSa : SlS w w.heap.size va a) (hSb : SlS w w.heap.size vb b) :
    Calls Tryd.prog 42 #[.int .i64 m, .int .i64 n, sumV x, sumV y, va, vb] w fun e w' => e = .returned (.tuple #[.agg (twC (leavesP m n x y a b)), .bool (leavesP m n x y a b).isSome]) ∧ Ext w w' := by
  obtain ⟨R, hR⟩ : ∃ R, R = leavesP m n x y a b := ⟨_, rfl⟩
  rw [← hR]
  have hpx := foldP_length x hx m n a
  have hpy := foldP_length y hy m n b
  have hok : (foldP x m n a).2 = true → Way.longI m n = (a.length : Int) := fun h => by
    unfold foldP at h
    split at h
    · assumption
    · cases h
  have hok2 : (foldP y m n b).2 = true → Way.longI m n = (b.length : Int) := fun h => by
    unfold foldP at h
    split at h
    · assumption
    · cases h
  unfold leavesP at hR
  obtain ⟨P, hP⟩ : ∃ P, P = foldP x m n a := ⟨_, rfl⟩
  obtain ⟨Q, hQ⟩ : ∃ Q, Q = foldP y m n b := ⟨_, rfl⟩
  rw [← hP] at hR hpx hok
  rw [← hQ] at hR hpy hok2
  obtain ⟨p, i⟩ := P
  obtain ⟨q, j⟩ := Q
  have hpl : p.length = 32 := hpx
  have hql : q.length = 32 := hpy
  dsimp only at hR hok hok2
  clear hpx hpy
  have HP := Lib.hid hP
  have HQ := Lib.hid hQ
  have HR := Lib.hid hR
  have HO1 := Lib.hid hok
  have HO2 := Lib.hid hok2
  clear hP hQ hR hok hok2
  have hgw := guard_sum
  have hfx := fold_sum x hx
  have hfy := fold_sum y hy
  have heq := fun w : World => eq_sum p q hpl hql w
  obtain ⟨d, hd0⟩ : ∃ d, d = decide (p = q) := ⟨_, rfl⟩
  rw [← hd0] at heq
  have HD := Lib.hid hd0
  clear hd0
  unfold sumV
  go_enter Tryd.func42, Tryd.ntmps42
  have hX : ArrB (((w.alloc (.cells (x.map byteV).toArray 23)).alloc (.cells (y.map byteV).toArray 23)).alloc (.cells #[.string (bs []), .string (bs [])] 57)) w.heap.size 23 x := Blk.alloc (Blk.alloc (Blk.new _ _ _) _) _
  have hY : ArrB (((w.alloc (.cells (x.map byteV).toArray 23)).alloc (.cells (y.map byteV).toArray 23)).alloc (.cells #[.string (bs []), .string (bs [])] 57)) (w.heap.size + 1) 23 y := by
    have := Blk.new (w.alloc (.cells (x.map byteV).toArray 23)) 23 (y.map byteV).toArray
    rw [alloc_size] at this
    exact Blk.alloc this _
  have hZ : Blk (((w.alloc (.cells (x.map byteV).toArray 23)).alloc (.cells (y.map byteV).toArray 23)).alloc (.cells #[.string (bs []), .string (bs [])] 57)) (w.heap.size + 1 + 1) 57 #[.string (bs []), .string (bs [])] := by
    have := Blk.new ((w.alloc (.cells (x.map byteV).toArray 23)).alloc (.cells (y.map byteV).toArray 23)) 57 #[.string (bs []), .string (bs [])]
    simp only [alloc_size] at this
    exact this
  have hE : Ext w (((w.alloc (.cells (x.map byteV).toArray 23)).alloc (.cells (y.map byteV).toArray 23)).alloc (.cells #[.string (bs []), .string (bs [])] 57)) := (((Ext.refl w).alloc _).alloc _).alloc _
  have hSa1 := hSa.ext hE
  have hSb1 := hSb.ext hE
  obtain ⟨Aa, ca, hva, hAa⟩ := id hSa
  obtain ⟨Ab, cb, hvb, hAb⟩ := id hSb
  subst hva
  subst hvb
  clear hAa hAb hSa hSb
  go_wp2_with (refine stop_load 23 (.tmp 8) rfl ?_)
  refine ⟨?_⟩
  change wpList _ _ _ _ _ (((w.alloc (.cells (x.map byteV).toArray 23)).alloc (.cells (y.map byteV).toArray 23)).alloc (.cells #[.string (bs []), .string (bs [])] 57))
  generalize ((w.alloc (.cells (x.map byteV).toArray 23)).alloc (.cells (y.map byteV).toArray 23)).alloc (.cells #[.string (bs []), .string (bs [])] 57) = w1 at *
  refine wpList_load_row rfl 23 (.tmp 8) rfl w.heap.size (by rfl) 23 _ (0, 0) _ hX Tryd.underlying23 rfl (size32.trans (by simp [hx])) ?_
  simp only [Act.put, List.setIfInBounds_toArray, List.set_cons_zero, List.set_cons_succ]
  go_wp2_with fail
  change Calls _ _ #[sumV x, _, _, _] _ _
  refine (refFold_sls x hx m n _ a ha hal _ hSa1).mono ?_; rw [← HP.out]; rintro e v2 ⟨rfl, e1⟩
  replace hX := Blk.below hX e1 (Blk.lt hX)
  replace hY := Blk.below hY e1 (Blk.lt hY)
  replace hZ := Blk.below hZ e1 (Blk.lt hZ)
  replace hSa1 := hSa1.ext e1
  replace hSb1 := hSb1.ext e1
  replace hE := hE.trans e1
  clear e1
  try unfold sumV
  go_wp2_with (refine stop_store 23 (.tmp 14) (.tmp 24) rfl ?_)
  refine ⟨?_⟩
  change wpList _ _ _ _ _ (v2.alloc (.cells ((zerosB 32).map byteV).toArray 23))
  have hA0 : ArrB (v2.alloc (.cells ((zerosB 32).map byteV).toArray 23)) v2.heap.size 23 (zerosB 32) := Blk.new _ _ _
  refine wpList_store_row rfl 23 (.tmp 14) (.tmp 24) rfl v2.heap.size ((p).map byteV).toArray (by rfl) (by rfl) 23 _ hA0 (size32.trans (by simp [hpl])) (by simp [hpl, zerosB]) (by simp [byteV, Value.oneCell']) ?_
  simp only [Act.put, List.setIfInBounds_toArray, List.set_cons_zero, List.set_cons_succ]
  have hA : ArrB ((v2.alloc (.cells ((zerosB 32).map byteV).toArray 23)).setRow v2.heap.size ((p).map byteV).toArray) v2.heap.size 23 (p) := Blk.row hA0 _
  have e4 : Ext v2 ((v2.alloc (.cells ((zerosB 32).map byteV).toArray 23)).setRow v2.heap.size ((p).map byteV).toArray) := ((Ext.refl v2).alloc _).row (Nat.le_refl _) _
  clear hA0
  generalize (v2.alloc (.cells ((zerosB 32).map byteV).toArray 23)).setRow v2.heap.size ((p).map byteV).toArray = v3 at *
  have g5l := Blk.lt hA
  obtain ⟨g5, g5e⟩ : ∃ g5, g5 = v2.heap.size := ⟨_, rfl⟩
  rw [← g5e] at hA g5l
  try rw [← g5e]
  have g5b : v2.heap.size ≤ g5 := by omega
  replace hX := Blk.below hX e4 (Blk.lt hX)
  replace hY := Blk.below hY e4 (Blk.lt hY)
  replace hZ := Blk.below hZ e4 (Blk.lt hZ)
  replace hSa1 := hSa1.ext e4
  replace hSb1 := hSb1.ext e4
  replace hE := hE.trans e4
  clear e4
  clear g5e
  go_wp2_with (refine stop_load 23 (.tmp 9) rfl ?_)
  refine ⟨?_⟩
  refine wpList_load_row rfl 23 (.tmp 9) rfl (w.heap.size + 1) (by rfl) 23 _ (0, 0) _ hY Tryd.underlying23 rfl (size32.trans (by simp [hy])) ?_
  simp only [Act.put, List.setIfInBounds_toArray, List.set_cons_zero, List.set_cons_succ]
  go_wp2_with fail
  change Calls _ _ #[sumV y, _, _, _] _ _
  refine (refFold_sls y hy m n _ b hb hbl _ hSb1).mono ?_; rw [← HQ.out]; rintro e v7 ⟨rfl, e6⟩
  replace hX := Blk.below hX e6 (Blk.lt hX)
  replace hY := Blk.below hY e6 (Blk.lt hY)
  replace hZ := Blk.below hZ e6 (Blk.lt hZ)
  replace hSa1 := hSa1.ext e6
  replace hSb1 := hSb1.ext e6
  replace hA := Blk.below hA e6 (Blk.lt hA)
  replace hE := hE.trans e6
  clear e6
  try unfold sumV
  go_wp2_with (refine stop_store 23 (.tmp 16) (.tmp 32) rfl ?_)
  refine ⟨?_⟩
  change wpList _ _ _ _ _ (v7.alloc (.cells ((zerosB 32).map byteV).toArray 23))
  have hB0 : ArrB (v7.alloc (.cells ((zerosB 32).map byteV).toArray 23)) v7.heap.size 23 (zerosB 32) := Blk.new _ _ _
  refine wpList_store_row rfl 23 (.tmp 16) (.tmp 32) rfl v7.heap.size ((q).map byteV).toArray (by rfl) (by rfl) 23 _ hB0 (size32.trans (by simp [hql])) (by simp [hql, zerosB]) (by simp [byteV, Value.oneCell']) ?_
  simp only [Act.put, List.setIfInBounds_toArray, List.set_cons_zero, List.set_cons_succ]
  have hB : ArrB ((v7.alloc (.cells ((zerosB 32).map byteV).toArray 23)).setRow v7.heap.size ((q).map byteV).toArray) v7.heap.size 23 (q) := Blk.row hB0 _
  have e9 : Ext v7 ((v7.alloc (.cells ((zerosB 32).map byteV).toArray 23)).setRow v7.heap.size ((q).map byteV).toArray) := ((Ext.refl v7).alloc _).row (Nat.le_refl _) _
  clear hB0
  generalize (v7.alloc (.cells ((zerosB 32).map byteV).toArray 23)).setRow v7.heap.size ((q).map byteV).toArray = v8 at *
  have g10l := Blk.lt hB
  obtain ⟨g10, g10e⟩ : ∃ g10, g10 = v7.heap.size := ⟨_, rfl⟩
  rw [← g10e] at hB g10l
  try rw [← g10e]
  have g10b : v7.heap.size ≤ g10 := by omega
  replace hX := Blk.below hX e9 (Blk.lt hX)
  replace hY := Blk.below hY e9 (Blk.lt hY)
  replace hZ := Blk.below hZ e9 (Blk.lt hZ)
  replace hSa1 := hSa1.ext e9
  replace hSb1 := hSb1.ext e9
  replace hA := Blk.below hA e9 (Blk.lt hA)
  replace hE := hE.trans e9
  clear e9
  clear g10e
  have z0 : v8.cell? ⟨w.heap.size + 1 + 1, 0, none⟩ = some (.string (bs [])) := Blk.cell hZ 0
  have z1 : v8.cell? ⟨w.heap.size + 1 + 1, 1, none⟩ = some (.string (bs [])) := Blk.cell hZ 1
  have f0 := Blk.frozen hZ 0
  have f1 := Blk.frozen hZ 1
  have hzl := Blk.lt hZ
  cases i
  · obtain rfl : R = none := HR.out
    go_wp2_with fail
    have hR5 := Blk.set_ (Blk.set_ hZ 0 (.string ⟨#[]⟩)) 1 (.string ⟨#[]⟩)
    refine bodyPost_ret (res_cell_t rfl _ _ (w.heap.size + 1 + 1) 57 _ _ rfl hR5 Tryd.underlying57 rfl size_twins) rfl ?_
    exact ⟨rfl, (hE.setCell (by simp; omega) _).setCell (by simp; omega) _⟩
  cases j
  · obtain rfl : R = none := HR.out
    go_wp2_with fail
    have hR5 := Blk.set_ (Blk.set_ hZ 0 (.string ⟨#[]⟩)) 1 (.string ⟨#[]⟩)
    refine bodyPost_ret (res_cell_t rfl _ _ (w.heap.size + 1 + 1) 57 _ _ rfl hR5 Tryd.underlying57 rfl size_twins) rfl ?_
    exact ⟨rfl, (hE.setCell (by simp; omega) _).setCell (by simp; omega) _⟩
  cases d
  · have hpq : ¬ p = q := of_decide_eq_false HD.out.symm
    obtain rfl : R = none := HR.out.trans (if_neg (by simp [hpq]))
    clear hpq
    go_wp2_with (refine stop_load 23 (.tmp 14) rfl ?_)
    refine ⟨?_⟩
    refine list_want (by rfl) (fun K hK => ?_)
    refine wp_load_row 23 (.tmp 14) rfl g5 (by rfl) 23 _ (0, 0) _ hA Tryd.underlying23 rfl (size32.trans (by simp [hpl])) ?_
    refine hK _ _ ?_; clear hK K
    simp only [Act.put, List.setIfInBounds_toArray, List.set_cons_zero, List.set_cons_succ]
    go_wp2_with (refine stop_load 23 (.tmp 16) rfl ?_)
    refine ⟨?_⟩
    refine list_want (by rfl) (fun K hK => ?_)
    refine wp_load_row 23 (.tmp 16) rfl g10 (by rfl) 23 _ (0, 0) _ hB Tryd.underlying23 rfl (size32.trans (by simp [hql])) ?_
    refine hK _ _ ?_; clear hK K
    simp only [Act.put, List.setIfInBounds_toArray, List.set_cons_zero, List.set_cons_succ]
    go_wp2_with fail
    have hR5 := Blk.set_ (Blk.set_ hZ 0 (.string ⟨#[]⟩)) 1 (.string ⟨#[]⟩)
    refine bodyPost_ret (res_cell_t rfl _ _ (w.heap.size + 1 + 1) 57 _ _ rfl hR5 Tryd.underlying57 rfl size_twins) rfl ?_
    exact ⟨rfl, (hE.setCell (by simp; omega) _).setCell (by simp; omega) _⟩
  have hpq : p = q := of_decide_eq_true HD.out.symm
  have hR : R = firstO (wayS x (Way.turnsI m n) a) (wayS y (Way.turnsI m n) b) := HR.out.trans (if_pos (by simp [hpq]))
  have hl1 := HO1.out rfl
  have hl2 := HO2.out rfl
  have hTa : (Way.turnsI m n).length = a.length := by have := Way.turnsI_length m n (by omega); omega
  have hTb : (Way.turnsI m n).length = b.length := by omega
  have hRl := first_flag (wayS x (Way.turnsI m n) a) (wayS y (Way.turnsI m n) b)
  rw [← hR] at hRl
  have HRR := Lib.hid hR
  have HTa := Lib.hid hTa
  have HTb := Lib.hid hTb
  have HLa := Lib.hid hl1
  have HLb := Lib.hid hl2
  clear hpq hR hl1 hl2 hTa hTb hRl
  go_wp2_with (refine stop_load 23 (.tmp 14) rfl ?_)
  refine ⟨?_⟩
  refine list_want (by rfl) (fun K hK => ?_)
  refine wp_load_row 23 (.tmp 14) rfl g5 (by rfl) 23 _ (0, 0) _ hA Tryd.underlying23 rfl (size32.trans (by simp [hpl])) ?_
  refine hK _ _ ?_; clear hK K
  simp only [Act.put, List.setIfInBounds_toArray, List.set_cons_zero, List.set_cons_succ]
  go_wp2_with (refine stop_load 23 (.tmp 16) rfl ?_)
  refine ⟨?_⟩
  refine list_want (by rfl) (fun K hK => ?_)
  refine wp_load_row 23 (.tmp 16) rfl g10 (by rfl) 23 _ (0, 0) _ hB Tryd.underlying23 rfl (size32.trans (by simp [hql])) ?_
  refine hK _ _ ?_; clear hK K
  simp only [Act.put, List.setIfInBounds_toArray, List.set_cons_zero, List.set_cons_succ]
  go_wp2_with fail
  clear z0 z1 f0 f1 hzl
  obtain ⟨Aa', ca', hva, -, -, -, hra⟩ := id hSa1
  obtain ⟨Ab', cb', hvb, -, -, -, hrb⟩ := id hSb1
  injection hva with v1 v2 v3
  injection hvb with v4 v5 v6
  subst v1 v3 v4 v6
  clear v2 v5
  have hras : ∀ z : More v8, Rd (grow v8 z) (grow v8 z).heap.size Aa (flatS a) := fun z => (hra.below (grow_ext z) (Nat.le_refl _)).more (grow_ext z).size
  have hrbs : ∀ z : More v8, Rd (grow v8 z) (grow v8 z).heap.size Ab (flatS b) := fun z => (hrb.below (grow_ext z) (Nat.le_refl _)).more (grow_ext z).size
  clear hra hrb
  obtain ⟨T, hT⟩ : ∃ T, T = Way.turnsI m n := ⟨_, rfl⟩
  rw [← hT] at HRR HTa HTb
  have HT := Lib.hid hT
  clear hT
  go_wp2_with fail
  refine region_mix 13 (by kernel_rfl) (by kernel_rfl) (fun y0 => ?_); simp only [List.take_succ_cons, List.take_zero, List.drop_succ_cons, List.drop_zero]
  iterate 2 (first | (refine mix_quiet (by rfl) (by rfl) (fun K hK => ?_); go_big_quiet_op; refine hK _ ?_; clear hK K) | (refine mix_skip (by rfl) ?_; simp only [Act.put, List.setIfInBounds_toArray, List.set_cons_zero, List.set_cons_succ]))
  refine mix_row (by rfl) (by rfl) 23 (.tmp 8) rfl w.heap.size (by rfl) 23 _ _ hX Tryd.underlying23 rfl (size32.trans (by simp [hx])) ?_
  simp only [Act.put, List.setIfInBounds_toArray, List.set_cons_zero, List.set_cons_succ]
  iterate 1 (first | (refine mix_quiet (by rfl) (by rfl) (fun K hK => ?_); go_big_quiet_op; refine hK _ ?_; clear hK K) | (refine mix_skip (by rfl) ?_; simp only [Act.put, List.setIfInBounds_toArray, List.set_cons_zero, List.set_cons_succ]))
  (refine mix_loud (by rfl) (by rfl) (fun K E hK => ?_); go_big_op)
  change Calls _ _ #[_, _, sumV x, _] _ _
  refine (refway_calls m n x hx Aa ca a ha hal HLa.out _ (hras _)).mono ?_; rw [← HT.out]; rintro e w5 ⟨v5, rfl, hO1, hd⟩
  obtain ⟨x1, rfl⟩ := more_ext _ hd; clear hd
  refine hK _ _ ⟨_, rfl⟩ ?_; clear hK K E
  iterate 2 (first | (refine mix_quiet (by rfl) (by rfl) (fun K hK => ?_); go_big_quiet_op; refine hK _ ?_; clear hK K) | (refine mix_skip (by rfl) ?_; simp only [Act.put, List.setIfInBounds_toArray, List.set_cons_zero, List.set_cons_succ]))
  refine mix_row (by rfl) (by rfl) 23 (.tmp 9) rfl (w.heap.size + 1) (by rfl) 23 _ _ hY Tryd.underlying23 rfl (size32.trans (by simp [hy])) ?_
  simp only [Act.put, List.setIfInBounds_toArray, List.set_cons_zero, List.set_cons_succ]
  iterate 1 (first | (refine mix_quiet (by rfl) (by rfl) (fun K hK => ?_); go_big_quiet_op; refine hK _ ?_; clear hK K) | (refine mix_skip (by rfl) ?_; simp only [Act.put, List.setIfInBounds_toArray, List.set_cons_zero, List.set_cons_succ]))
  (refine mix_loud (by rfl) (by rfl) (fun K E hK => ?_); go_big_op)
  change Calls _ _ #[_, _, sumV y, _] _ _
  refine (refway_calls m n y hy Ab cb b hb hbl HLb.out _ (hrbs _)).mono ?_; rw [← HT.out]; rintro e w6 ⟨v6, rfl, hO2, hd⟩
  replace hO1 := owns_ext hO1 hd
  obtain ⟨x2, rfl⟩ := more_ext _ hd; clear hd
  refine hK _ _ ⟨_, rfl⟩ ?_; clear hK K E
  obtain ⟨A5, c5, rfl, hr5⟩ := ownT_rd hO1
  obtain ⟨A6, c6, rfl, hr6⟩ := ownT_rd hO2
  clear hO1 hO2
  have hb5 : ∀ s ∈ wayS x T a, s.length ≤ 4611686018427380000 := fun s hs => by rw [wayS_bound T a x hx ha s hs]; omega
  have hb6 : ∀ s ∈ wayS y T b, s.length ≤ 4611686018427380000 := fun s hs => by rw [wayS_bound T b y hy hb s hs]; omega
  have hl5 : (wayS x T a).length ≤ 1000000 := by rw [way_len x T a HTa.out]; exact hal
  have hl6 : (wayS y T b).length ≤ 1000000 := by rw [way_len y T b HTb.out]; exact hbl
  (refine mix_loud (by rfl) (by rfl) (fun K E hK => ?_); go_big_op)
  refine (refFirst_calls _ _ hb5 hb6 hl5 hl6 A5 A6 c5 c6 _ hr5 hr6).mono ?_; rw [← HRR.out]; rintro e w7 ⟨rfl, hd⟩
  obtain ⟨x3, rfl⟩ := more_ext _ hd; clear hd hr5 hr6 hb5 hb6 hl5 hl6
  refine hK _ _ ⟨_, rfl⟩ ?_; clear hK K E
  repeat (first | (refine mix_quiet (by rfl) (by rfl) (fun K hK => ?_); go_big_quiet_op; refine hK _ ?_; clear hK K) | (refine mix_skip (by rfl) ?_; simp only [Act.put, List.setIfInBounds_toArray, List.set_cons_zero, List.set_cons_succ]))
  refine mix_nil ?_
  have e9 := grow_ext x3
  clear hras hrbs
  generalize grow v8 x3 = w9 at *
  replace hZ := Blk.below hZ e9 (Blk.lt hZ)
  replace hE := hE.trans e9
  clear e9
  have f0 := Blk.frozen hZ 0
  have f1 := Blk.frozen hZ 1
  have z0 : w9.cell? ⟨w.heap.size + 1 + 1, 0, none⟩ = some (.string (bs [])) := Blk.cell hZ 0
  have z1 : w9.cell? ⟨w.heap.size + 1 + 1, 1, none⟩ = some (.string (bs [])) := Blk.cell hZ 1
  have hzl := Blk.lt hZ
  unfold twC
  obtain ⟨s, hs⟩ : ∃ s, s = (R.getD ([], [])).1 := ⟨_, rfl⟩
  obtain ⟨t, ht⟩ : ∃ t, t = (R.getD ([], [])).2 := ⟨_, rfl⟩
  rw [← hs, ← ht]
  have HS := Lib.hid hs
  have HTT := Lib.hid ht
  clear hs ht
  have hR5 := Blk.set_ (Blk.set_ hZ 0 (.string (bs s))) 1 (.string (bs t))
  go_wp2_with fail
  refine bodyPost_ret (res_cell_t rfl _ _ (w.heap.size + 1 + 1) 57 _ _ rfl hR5 Tryd.underlying57 rfl size_twins) rfl ?_
  exact ⟨by rw [HS.out, HTT.out]; rfl, (hE.setCell (by simp; omega) _).setCell (by simp; omega) _⟩

end Go.Proofs.YtfpipdopgepelaaDoor

namespace Go.Proofs.YtfpipdopgepelaaDoor
open Go.ChangeShapes Go.WideShapes Go.ChangeAt Go.RowKit
attribute [local go_sem] bs_size bs_toList2 bs_append bs_extract_end bs_extract_begin bs_get wrap64_b grow_cell grow_frozen

set_option maxHeartbeats 2000000 in
theorem refsides_calls (m n : Nat) (hm1 : 1 ≤ m) (hm : m ≤ n) (hn : n ≤ 1099511627776) (w : World) :
    Calls Tryd.prog 84 #[.int .i64 (m : Int), .int .i64 (n : Int)] w fun e w' => ∃ v, e = .returned v ∧ OwnB w' w.heap.size v (Way.parts m n).reverse ∧ Ext w w' := by
  have hgl := parts_le m n
  obtain ⟨goal, hgoal⟩ : ∃ g, g = Way.parts m n := ⟨_, rfl⟩
  rw [← hgoal] at hgl ⊢
  have Hg := Lib.hid hgoal
  clear hgoal
  go_enter Tryd.func84, Tryd.ntmps84
  go_wp2_with fail
  go_loopw [0, 1, 5, 6] (fun s0 s1 s5 _ wr => ∃ (i j : Nat) (out : List Bool), s0 = .int .i64 (i : Int) ∧ s1 = .int .i64 (j : Int) ∧ 1 ≤ i ∧ i ≤ j ∧ j ≤ n ∧ out ++ Way.parts i j = goal ∧ OwnB wr w.heap.size s5 out ∧ Ext w wr) (fun _ s1 _ _ _ => (intOf s1).toNat)
  case atStart => exact ⟨m, n, [], rfl, rfl, hm1, hm, Nat.le_refl _, by rw [Hg.out]; rfl, ownB_nil _ _, Ext.refl _⟩
  case round =>
    obtain ⟨wo, rfl⟩ : ∃ wo : World, wo = wr := ⟨_, rfl⟩
    obtain ⟨i, j, out, rfl, rfl, hi1, hij, hjn, hog, hO, hE⟩ := hrel
    have hol : out.length ≤ n := by have := congrArg List.length hog; rw [List.length_append] at this; omega
    have Hog := Lib.hid hog
    clear hog
    obtain ⟨A, c, hv⟩ := own_slice hO
    subst hv
    have hz := hE.size
    by_cases hj1 : i ≠ j
    · have dj : ((i : Int) != (j : Int)) = true := by simp; omega
      have hsl := Tree.split_lt j (by omega)
      have hsp := Tree.split_pos j (by omega)
      have HSp := Lib.hid (split_nat j (by omega))
      by_cases hk : i ≤ Tree.split j
      · have hp := Way.parts_first (by omega) hi1 hk
        have Hp := Lib.hid hp
        have dk : decide ((i : Int) ≤ (Tree.split j : Int)) = true := decide_eq_true (by omega)
        clear hp
        go_wp2_with fail
        refine (refSplit_calls (j : Int) (by omega) (by omega) _).mono ?_; rw [HSp.out]; rintro e w1 ⟨rfl, rfl⟩
        generalize Tree.split j = k at *
        go_wp2_with (refine stop_dst 19 rfl ?_)
        refine ⟨?_⟩
        refine append_bool rfl (.tmp 17) (.tmp 18) rfl _ out false rfl rfl (by omega) w.heap.size hz hO hE (Nat.le_refl _) fun A5 c5 w5 hO5 hE5 => ?_
        simp only [Act.put, List.setIfInBounds_toArray, List.set_cons_zero, List.set_cons_succ]
        clear hO hE
        go_wp2_with fail
        go_roundw
        case rel =>
          first
            | exact ⟨i, k, out ++ [false], rfl, rfl, hi1, hk, by omega, by rw [← Hog.out, Hp.out]; simp, hO5, hE5⟩
            | (repeat apply Exists.intro
               refine ⟨?_, rfl⟩
               exact ⟨i, k, out ++ [false], rfl, rfl, hi1, hk, by omega, by rw [← Hog.out, Hp.out]; simp, hO5, hE5⟩)
        case measure => simp [intOf]; omega
      · have hp := Way.parts_others (by omega) hi1 hk
        have Hp := Lib.hid hp
        have dk : decide ((i : Int) ≤ (Tree.split j : Int)) = false := decide_eq_false (by omega)
        clear hp
        go_wp2_with fail
        refine (refSplit_calls (j : Int) (by omega) (by omega) _).mono ?_; rw [HSp.out]; rintro e w1 ⟨rfl, rfl⟩
        generalize Tree.split j = k at *
        go_wp2_with (refine stop_dst 23 rfl ?_)
        refine ⟨?_⟩
        refine append_bool rfl (.tmp 21) (.tmp 22) rfl _ out true rfl rfl (by omega) w.heap.size hz hO hE (Nat.le_refl _) fun A5 c5 w5 hO5 hE5 => ?_
        simp only [Act.put, List.setIfInBounds_toArray, List.set_cons_zero, List.set_cons_succ]
        clear hO hE
        go_wp2_with fail
        go_roundw
        case rel =>
          first
            | exact ⟨i - k, j - k, out ++ [true], by go_num, by go_num, by omega, by omega, by omega, by rw [← Hog.out, Hp.out]; simp, hO5, hE5⟩
            | (repeat apply Exists.intro
               refine ⟨?_, rfl⟩
               exact ⟨i - k, j - k, out ++ [true], by go_num, by go_num, by omega, by omega, by omega, by rw [← Hog.out, Hp.out]; simp, hO5, hE5⟩)
        case measure => simp [intOf]; omega
    · obtain rfl : i = j := by omega
      have dj : ((i : Int) != (i : Int)) = false := by simp
      have hgo : out = goal := by rw [← Hog.out, Way.parts_done, List.append_nil]
      subst hgo
      clear Hog
      obtain ⟨A', c', hv', hrd, -, -, -⟩ := own_rd hO
      injection hv' with e1 e2 e3
      subst e1
      clear e2 e3
      go_wp2_with fail
      go_loopw [7, 8] (fun s7 s8 wq => ∃ k : Nat, k ≤ out.length ∧ s8 = .int .i64 ((out.length : Int) - 1 - k) ∧ OwnB wq wo.heap.size s7 (out.reverse.take k) ∧ Ext wo wq) (fun _ s8 _ => (intOf s8 + 1).toNat)
      case atStart => exact ⟨0, Nat.zero_le _, by simp, ownB_nil _ _, Ext.refl _⟩
      case round =>
        obtain ⟨wz, rfl⟩ : ∃ wz : World, wz = wr := ⟨_, rfl⟩
        obtain ⟨k, hk, rfl, hO2, hE2⟩ := hrel
        have hzz := hE2.size
        obtain ⟨A2, c2, hv2⟩ := own_slice hO2
        subst hv2
        by_cases hlt : k < out.length
        · have hpos : (0 : Int) ≤ (out.length : Int) - 1 - (k : Int) := by omega
          obtain ⟨q, hq⟩ : ∃ q : Nat, q = out.length - 1 - k := ⟨_, rfl⟩
          have hqI : (out.length : Int) - 1 - (k : Int) = (q : Int) := by omega
          have hql : q < out.length := by omega
          obtain ⟨b, off, rfl, hb, hc⟩ := hrd (map_ne Value.bool hql)
          have c1 : wz.cell? ⟨b, off + q, none⟩ = some (.bool out[q]) := ((ext_cells hE2).1 b _ hb).trans (hc q (.bool out[q]) (by simp [hql]))
          have hrk : out.reverse[k]'(by simpa using hlt) = out[q] := by rw [List.getElem_reverse]; congr 1; omega
          have HT := Lib.hid (show out.reverse.take (k + 1) = out.reverse.take k ++ [out[q]] by rw [List.take_succ_eq_append_getElem (by simpa using hlt), hrk])
          generalize out[q] = sd at *
          have hl2 : (out.reverse.take k).length = k := by rw [List.length_take, List.length_reverse]; omega
          rw [hqI]
          rw [hqI] at hpos
          have HqI := Lib.hid hqI
          clear hqI hq hrk
          have dpos : decide ((0 : Int) ≤ (q : Int)) = true := decide_eq_true hpos
          go_wp2_with (refine stop_dst 43 rfl ?_)
          refine ⟨?_⟩
          refine append_bool rfl (.tmp 37) (.tmp 42) rfl _ (out.reverse.take k) sd rfl rfl (by omega) wo.heap.size hzz hO2 hE2 (Nat.le_refl _) fun A5 c5 w5 hO5 hE5 => ?_
          simp only [Act.put, List.setIfInBounds_toArray, List.set_cons_zero, List.set_cons_succ]
          clear hO2 hE2 c1 hc
          go_wp2_with fail
          go_roundw
          case rel =>
            first
              | exact ⟨k + 1, by omega, by have := HqI.out; congr 1; omega, by rw [HT.out]; exact hO5, hE5⟩
              | (repeat apply Exists.intro
                 refine ⟨?_, rfl⟩
                 exact ⟨k + 1, by omega, by have := HqI.out; congr 1; omega, by rw [HT.out]; exact hO5, hE5⟩)
          case measure => simp [intOf]
        · obtain rfl : k = out.length := by omega
          have hneg : ¬ (0 : Int) ≤ (out.length : Int) - 1 - (out.length : Int) := by omega
          have dneg : decide ((0 : Int) ≤ (out.length : Int) - 1 - (out.length : Int)) = false := decide_eq_false hneg
          have ht : out.reverse.take out.length = out.reverse := by rw [← List.length_reverse, List.take_length]
          rw [ht] at hO2
          have hO3 := owns_base hO2 hz
          have hE3 := hE.trans hE2
          clear hO2 hE2 hO hE ht
          go_wp2_with fail
          go_ret
          rw [show (Value.slice A2 out.reverse.length c2) = .slice A2 out.length c2 by rw [List.length_reverse]] at hO3
          exact ⟨_, rfl, hO3, hE3⟩


/-- The texts on links' way. -/
def linkedS (x : List UInt8) (T : List Bool) (l : List (List UInt8)) : List (List UInt8) := if l.length ≤ T.length then wayS x T l else wayS (l.headD x) T l.tail
theorem linkedS_bound (x : List UInt8) (hx : x.length = 32) (T : List Bool) (l : List (List UInt8)) (hl : AllH l) : ∀ s ∈ linkedS x T l, s.length = 65 := by
  unfold linkedS
  split
  · exact wayS_bound T l x hx hl
  · exact wayS_bound T l.tail _ (headD_length l hl x hx) (tail_all hl)
theorem linkedS_len (x : List UInt8) (T : List Bool) (l : List (List UInt8)) (h : l.length = T.length ∨ l.length = T.length + 1) : (linkedS x T l).length = T.length := by
  unfold linkedS
  split
  · rw [way_len _ _ _ (by omega)]; omega
  · rw [way_len _ _ _ (by rw [List.length_tail]; omega), List.length_tail]; omega
theorem treesIn_linked (x y : List UInt8) (a b : List (List UInt8)) (T : List Bool) (h : a.length = b.length) : treesIn x y a b T = firstO (linkedS x T a) (linkedS y T b) := by
  unfold treesIn linkedS
  rw [h]
  split <;> rfl

set_option maxHeartbeats 4000000 in
theorem reflinked_whole (m n : Nat) (hm1 : 1 ≤ m) (hm2 : m ≤ n) (hm3 : n ≤ 1099511627776) (X0 : List UInt8) (hX0' : X0.length = 32) (A : Option Addr) (cap : Nat) (lo : List (List UInt8)) (hlo : AllH lo) (hll : lo.length ≤ 1000000) (hcap : lo.length ≤ cap) (hcap63 : cap ≤ 9223372036854775807) (hcond : lo.length = (Way.parts m n).length) (w : World) (hrdo : Rd w w.heap.size A (flatS lo)) :
    Calls Tryd.prog 67 #[.int .i64 (m : Int), .int .i64 (n : Int), sumV X0, .slice A lo.length cap] w fun e w' => ∃ v, e = .returned v ∧ OwnT w' w.heap.size v (wayS X0 (Way.parts m n).reverse lo) ∧ Ext w w' := by
  have hsd := refsides_calls m n hm1 hm2 hm3
  obtain ⟨T, hT⟩ : ∃ T, T = (Way.parts m n).reverse := ⟨_, rfl⟩
  rw [← hT] at hsd
  have hTp : T.length = (Way.parts m n).length := by rw [hT, List.length_reverse]
  rw [← hTp] at hcond
  rw [← hT]
  have HSd := Lib.hid hsd
  clear hT hsd hTp
  obtain ⟨z0, hz0e⟩ : ∃ z0, z0 = X0 := ⟨_, rfl⟩
  obtain ⟨l, hle⟩ : ∃ l, l = lo := ⟨_, rfl⟩
  rw [← hz0e, ← hle]
  rw [← hle] at hlo hll hcap hcond hrdo
  rw [← hz0e] at hX0'
  have hz0 := hX0'
  have hl := hlo
  have hrd := hrdo
  have hT0 := hcond.symm
  clear hz0e hle hX0' hlo hrdo
  have hwl := way_len z0 T l hT0
  have hfull : wayS z0 (T.take l.length) (l.take l.length) = wayS z0 T l := by rw [← hT0, List.take_length, hT0, List.take_length]
  obtain ⟨Y, hY⟩ : ∃ Y, Y = wayS z0 T l := ⟨_, rfl⟩
  rw [← hY] at hwl hfull
  have HY := Lib.hid hfull
  have Hwl := Lib.hid hwl
  have HTl := Lib.hid hT0
  rw [← hY]
  clear hY hwl hfull
  have hgt : ¬ (T.length : Int) < (l.length : Int) := by omega
  clear hT0 hcond
  have hfold := fold_sum z0 hz0
  unfold sumV
  go_enter Tryd.func67, Tryd.ntmps67
  have hB0 : ArrB (w.alloc (.cells (z0.map byteV).toArray 23)) w.heap.size 23 z0 := Blk.new _ _ _
  have hE0 : Ext w (w.alloc (.cells (z0.map byteV).toArray 23)) := (Ext.refl w).alloc _
  have hs0 : (w.alloc (.cells (z0.map byteV).toArray 23)).heap.size = w.heap.size + 1 := alloc_size _ _
  go_wp2_with fail
  change Calls _ _ _ (w.alloc (.cells (z0.map byteV).toArray 23)) _
  generalize (w.alloc (.cells (z0.map byteV).toArray 23)) = w1 at *
  refine (HSd.out _).mono ?_; rintro e w3 ⟨v, rfl, hO, e3⟩
  obtain ⟨B, c, rfl, hrT, -, -, hBb⟩ := own_rd hO
  have hX3 := Blk.below hB0 e3 (Blk.lt hB0)
  have hE3 : Keep (fun k => k < w.heap.size) w w3 := Keep.of_ext (hE0.trans e3)
  have hs3 := e3.size
  clear hB0 hE0 e3 hO
  go_wp2_with fail
  have dN : decide (T.length < l.length) = false := decide_eq_false (by have := HTl.out; omega)
  simp only [dN]
  clear dN
  go_loopw [10, 11, 12] (fun so si _ wr => ∃ (k : Nat) (v : Value), k ≤ l.length ∧ si = .int .i64 (k : Int) ∧ so = v ∧ ArrB wr w.heap.size 23 (Way.foldW nodeB z0 (T.take k) (l.take k)) ∧ wr.ownsRow w3.heap.size 9 1 v k ((wayS z0 (T.take k) (l.take k)).map strV) ∧ w3.heap.size ≤ wr.heap.size ∧ Keep (fun k => k < w3.heap.size ∧ k ≠ w.heap.size) w3 wr) (fun _ si _ _ => l.length - (intOf si).toNat)
  case atStart => exact ⟨0, _, Nat.zero_le _, rfl, rfl, by rw [List.take_zero, Way.foldW_nil]; exact hX3, by rw [List.take_zero]; exact World.ownsRow_nil _ _ _ _, Nat.le_refl _, Keep.refl _ _⟩
  case round =>
    obtain ⟨wo, rfl⟩ : ∃ wo : World, wo = wr := ⟨_, rfl⟩
    obtain ⟨k, v, hk, rfl, rfl, hX, hO, hzz, hKp⟩ := hrel
    by_cases hlt : k < l.length
    · have hlI : (k : Int) < (l.length : Int) := by omega
      have hkT : k < T.length := by rw [HTl.out]; exact hlt
      have hTI : (k : Int) < (T.length : Int) := by omega
      obtain ⟨b3, o3, rfl, hb3, hcT⟩ := hrT (map_ne Value.bool hkT)
      have hbb3 := hBb b3 o3 rfl
      have cT0 : w3.cell? ⟨b3, o3 + k, none⟩ = some (.bool T[k]) := hcT k (.bool T[k]) (by simp [hkT])
      obtain ⟨b, off, rfl, hbl, hm0⟩ := rds_mid hrd hl hlt
      have hb3w : b < w3.heap.size := Nat.lt_of_lt_of_le hbl hE3.size
      have hm3 : w3.rangeAt b (off + k * 32) (hcells l[k]) := fun i u hu => (World.cell?_of_block (hE3.block b hbl hbl)).trans (hm0 i u hu)
      have hq : l[k].length = 32 := hl _ (List.getElem_mem hlt)
      have hfl := foldW_length (T.take k) (l.take k) z0 hz0
      have hwt := way_take z0 T l k hkT hlt
      have hft := foldW_take z0 T l k hkT hlt
      rw [turn_sha] at hft
      have hpl : (wayS z0 (T.take k) (l.take k)).length = k := by rw [way_len _ _ _ (by rw [List.length_take, List.length_take]; omega), List.length_take]; omega
      generalize l[k] = q at *
      generalize T[k] = tk at *
      generalize Way.foldW nodeB z0 (T.take k) (l.take k) = z at *
      generalize wayS z0 (T.take k) (l.take k) = out at *
      have Hwt := Lib.hid hwt
      have Hft := Lib.hid hft
      have Hpl := Lib.hid hpl
      clear hwt hft hcT hpl hm0
      have cT1 : wo.cell? ⟨b3, o3 + k, none⟩ = some (.bool tk) := (World.cell?_of_block (hKp.block b3 (by omega) ⟨by omega, by omega⟩)).trans cT0
      have hm : wo.rangeAt b (off + k * 32) (hcells q) := fun i u hu => (World.cell?_of_block (hKp.block b (by omega) ⟨by omega, by omega⟩)).trans (hm3 i u hu)
      have hbo : b < wo.heap.size := by have := hKp.size; omega
      have hb3o : b3 < wo.heap.size := by have := hKp.size; omega
      cases tk
      · skip
        go_wp2_with fail
        refine region_mix0 (by kernel_rfl) (by kernel_rfl) (fun y0 => ?_)
        refine mix_row (by rfl) (by rfl) 23 (.tmp 6) rfl w.heap.size (by rfl) 23 _ _ hX Tryd.underlying23 rfl (size32.trans (by simp [hfl])) ?_
        simp only [Act.put, List.setIfInBounds_toArray, List.set_cons_zero, List.set_cons_succ]
        iterate 3 (first | (refine mix_quiet (by rfl) (by rfl) (fun K hK => ?_); go_big_quiet_op; refine hK _ ?_; clear hK K) | (refine mix_skip (by rfl) ?_; simp only [Act.put, List.setIfInBounds_toArray, List.set_cons_zero, List.set_cons_succ]))
        refine mix_mid (by rfl) (by rfl) 23 (.tmp 35) rfl b (off + k * 32) (by rfl) _ _ hm hbo Tryd.underlying23 rfl (size32l _ hq) ?_
        simp only [Act.put, List.setIfInBounds_toArray, List.set_cons_zero, List.set_cons_succ]
        unfold hcells
        (refine mix_loud (by rfl) (by rfl) (fun K E hK => ?_); go_big_op)
        change Calls _ _ #[sumV z, sumV q] _ _
        refine (refPreimage_calls z q hfl hq _).mono ?_; rintro e w5 ⟨rfl, hd⟩
        obtain ⟨x', rfl⟩ := more_ext _ hd; clear hd
        refine hK _ _ ⟨_, rfl⟩ ?_; clear hK K E
        repeat (first | (refine mix_quiet (by rfl) (by rfl) (fun K hK => ?_); go_big_quiet_op; refine hK _ ?_; clear hK K) | (refine mix_skip (by rfl) ?_; simp only [Act.put, List.setIfInBounds_toArray, List.set_cons_zero, List.set_cons_succ]))
        refine mix_nil ?_
        have e2 := grow_ext x'
        generalize grow wo x' = v1 at *
        replace hX := Blk.below hX e2 (Blk.lt hX)
        replace hO := owns_ext hO e2
        replace hKp := hKp.trans (Keep.of_ext e2)
        replace hzz := Nat.le_trans hzz e2.size
        replace cT1 : v1.cell? ⟨b3, o3 + k, none⟩ = some (.bool false) := (World.cell?_of_block (hKp.block b3 (by omega) ⟨by omega, by omega⟩)).trans cT0
        replace hm : v1.rangeAt b (off + k * 32) (hcells q) := fun i u hu => (World.cell?_of_block (hKp.block b (by omega) ⟨by omega, by omega⟩)).trans (hm3 i u hu)
        replace hbo : b < v1.heap.size := by have := hKp.size; omega
        replace hb3o : b3 < v1.heap.size := by have := hKp.size; omega
        clear e2
        have hsl : (preB z q).length = 65 := by rw [preB_length]; omega
        have hw2 : wayS z0 (T.take (k + 1)) (l.take (k + 1)) = out ++ [preB z q] := Hwt.out
        have hf2 : Way.foldW nodeB z0 (T.take (k + 1)) (l.take (k + 1)) = shaOf (preB z q) := Hft.out
        have Hw2 := Lib.hid hw2
        have Hf2 := Lib.hid hf2
        clear Hwt Hft hw2 hf2
        generalize preB z q = s at *
        go_wp2_with (refine stop_dst 51 rfl ?_)
        refine ⟨?_⟩
        change wpList _ _ _ _ _ (v1.alloc (.cells #[.string (bs s)] 9))
        refine append_strK rfl (.tmp 48) (.tmp 50) rfl _ out s rfl rfl (by rw [Hpl.out]; omega) w3.heap.size hzz k Hpl.out hO fun A5 c5 w5 hO5 hk5 => ?_
        simp only [Act.put, List.setIfInBounds_toArray, List.set_cons_zero, List.set_cons_succ]
        replace hKp := hKp.trans (hk5.mono (fun k' _ h' => fun he => by have := (hO.lt k' he.symm).1; omega))
        replace hX := Blk.kept hX hk5 (fun he => by have := (hO.lt _ he.symm).1; omega)
        replace hzz := Nat.le_trans hzz hk5.size
        clear hk5 hO cT1 hm hbo hb3o cT0 hm3
        rw [← Hw2.out] at hO5
        go_wp2_with fail
        refine (refOf_calls s _ (by omega)).mono ?_; rintro e w6 ⟨rfl, e6⟩
        replace hX := Blk.below hX e6 (Blk.lt hX)
        replace hO5 := owns_ext hO5 e6
        replace hKp := hKp.trans (Keep.of_ext e6)
        replace hzz := Nat.le_trans hzz e6.size
        clear e6
        have hs32 := shaOf_length s
        unfold sumV
        go_wp2_with (refine stop_store 23 (.tmp 6) (.tmp 53) rfl ?_)
        refine ⟨?_⟩
        refine wpList_store_row rfl 23 (.tmp 6) (.tmp 53) rfl w.heap.size ((shaOf s).map byteV).toArray (by rfl) (by rfl) 23 _ hX (size32.trans (by simp [hs32])) (by simp [hs32, hfl]) (by simp [byteV, Value.oneCell']) ?_
        simp only [Act.put, List.setIfInBounds_toArray, List.set_cons_zero, List.set_cons_succ]
        have hX7 : ArrB (w6.setRow w.heap.size ((shaOf s).map byteV).toArray) w.heap.size 23 (shaOf s) := Blk.row hX _
        have hX7u : Upd w.heap.size w6 (w6.setRow w.heap.size ((shaOf s).map byteV).toArray) := (Upd.refl _ _).row _
        generalize w6.setRow w.heap.size ((shaOf s).map byteV).toArray = w7 at *
        have hO7 := ownT_far (g := w.heap.size) hO5 (Keep.of_upd hX7u (fun h => h rfl)) (by omega)
        have hKp7 := hKp.trans (Keep.of_upd hX7u (fun h => h.2 rfl))
        have hz7 : w3.heap.size ≤ w7.heap.size := Nat.le_trans hzz hX7u.size
        rw [← Hf2.out] at hX7
        clear hX hO5 hKp hX7u
        go_wp2_with fail
        go_roundw
        case rel =>
          first
            | exact ⟨k + 1, _, by omega, by go_num, rfl, hX7, hO7, hz7, hKp7⟩
            | (repeat apply Exists.intro
               refine ⟨?_, rfl⟩
               exact ⟨k + 1, _, by omega, by go_num, rfl, hX7, hO7, hz7, hKp7⟩)
        case measure => simp [intOf]; omega
      · skip
        go_wp2_with fail
        refine region_mix0 (by kernel_rfl) (by kernel_rfl) (fun y0 => ?_)
        refine mix_row (by rfl) (by rfl) 23 (.tmp 6) rfl w.heap.size (by rfl) 23 _ _ hX Tryd.underlying23 rfl (size32.trans (by simp [hfl])) ?_
        simp only [Act.put, List.setIfInBounds_toArray, List.set_cons_zero, List.set_cons_succ]
        iterate 3 (first | (refine mix_quiet (by rfl) (by rfl) (fun K hK => ?_); go_big_quiet_op; refine hK _ ?_; clear hK K) | (refine mix_skip (by rfl) ?_; simp only [Act.put, List.setIfInBounds_toArray, List.set_cons_zero, List.set_cons_succ]))
        refine mix_mid (by rfl) (by rfl) 23 (.tmp 35) rfl b (off + k * 32) (by rfl) _ _ hm hbo Tryd.underlying23 rfl (size32l _ hq) ?_
        simp only [Act.put, List.setIfInBounds_toArray, List.set_cons_zero, List.set_cons_succ]
        unfold hcells
        (refine mix_loud (by rfl) (by rfl) (fun K E hK => ?_); go_big_op)
        change Calls _ _ #[sumV z, sumV q] _ _
        refine (refPreimage_calls z q hfl hq _).mono ?_; rintro e w5 ⟨rfl, hd⟩
        obtain ⟨x', rfl⟩ := more_ext _ hd; clear hd
        refine hK _ _ ⟨_, rfl⟩ ?_; clear hK K E
        repeat (first | (refine mix_quiet (by rfl) (by rfl) (fun K hK => ?_); go_big_quiet_op; refine hK _ ?_; clear hK K) | (refine mix_skip (by rfl) ?_; simp only [Act.put, List.setIfInBounds_toArray, List.set_cons_zero, List.set_cons_succ]))
        refine mix_nil ?_
        have e2 := grow_ext x'
        generalize grow wo x' = v1 at *
        replace hX := Blk.below hX e2 (Blk.lt hX)
        replace hO := owns_ext hO e2
        replace hKp := hKp.trans (Keep.of_ext e2)
        replace hzz := Nat.le_trans hzz e2.size
        replace cT1 : v1.cell? ⟨b3, o3 + k, none⟩ = some (.bool true) := (World.cell?_of_block (hKp.block b3 (by omega) ⟨by omega, by omega⟩)).trans cT0
        replace hm : v1.rangeAt b (off + k * 32) (hcells q) := fun i u hu => (World.cell?_of_block (hKp.block b (by omega) ⟨by omega, by omega⟩)).trans (hm3 i u hu)
        replace hbo : b < v1.heap.size := by have := hKp.size; omega
        replace hb3o : b3 < v1.heap.size := by have := hKp.size; omega
        clear e2
        go_wp2_with fail
        refine region_mix0 (by kernel_rfl) (by kernel_rfl) (fun y0 => ?_)
        iterate 3 (first | (refine mix_quiet (by rfl) (by rfl) (fun K hK => ?_); go_big_quiet_op; refine hK _ ?_; clear hK K) | (refine mix_skip (by rfl) ?_; simp only [Act.put, List.setIfInBounds_toArray, List.set_cons_zero, List.set_cons_succ]))
        refine mix_mid (by rfl) (by rfl) 23 (.tmp 44) rfl b (off + k * 32) (by rfl) _ _ hm hbo Tryd.underlying23 rfl (size32l _ hq) ?_
        simp only [Act.put, List.setIfInBounds_toArray, List.set_cons_zero, List.set_cons_succ]
        refine mix_row (by rfl) (by rfl) 23 (.tmp 6) rfl w.heap.size (by rfl) 23 _ _ hX Tryd.underlying23 rfl (size32.trans (by simp [hfl])) ?_
        simp only [Act.put, List.setIfInBounds_toArray, List.set_cons_zero, List.set_cons_succ]
        unfold hcells
        (refine mix_loud (by rfl) (by rfl) (fun K E hK => ?_); go_big_op)
        change Calls _ _ #[sumV q, sumV z] _ _
        refine (refPreimage_calls q z hq hfl _).mono ?_; rintro e w5 ⟨rfl, hd⟩
        obtain ⟨x', rfl⟩ := more_ext _ hd; clear hd
        refine hK _ _ ⟨_, rfl⟩ ?_; clear hK K E
        repeat (first | (refine mix_quiet (by rfl) (by rfl) (fun K hK => ?_); go_big_quiet_op; refine hK _ ?_; clear hK K) | (refine mix_skip (by rfl) ?_; simp only [Act.put, List.setIfInBounds_toArray, List.set_cons_zero, List.set_cons_succ]))
        refine mix_nil ?_
        have e4 := grow_ext x'
        generalize grow v1 x' = v3 at *
        replace hX := Blk.below hX e4 (Blk.lt hX)
        replace hO := owns_ext hO e4
        replace hKp := hKp.trans (Keep.of_ext e4)
        replace hzz := Nat.le_trans hzz e4.size
        replace cT1 : v3.cell? ⟨b3, o3 + k, none⟩ = some (.bool true) := (World.cell?_of_block (hKp.block b3 (by omega) ⟨by omega, by omega⟩)).trans cT0
        replace hm : v3.rangeAt b (off + k * 32) (hcells q) := fun i u hu => (World.cell?_of_block (hKp.block b (by omega) ⟨by omega, by omega⟩)).trans (hm3 i u hu)
        replace hbo : b < v3.heap.size := by have := hKp.size; omega
        replace hb3o : b3 < v3.heap.size := by have := hKp.size; omega
        clear e4
        have hsl : (preB q z).length = 65 := by rw [preB_length]; omega
        have hw2 : wayS z0 (T.take (k + 1)) (l.take (k + 1)) = out ++ [preB q z] := Hwt.out
        have hf2 : Way.foldW nodeB z0 (T.take (k + 1)) (l.take (k + 1)) = shaOf (preB q z) := Hft.out
        have Hw2 := Lib.hid hw2
        have Hf2 := Lib.hid hf2
        clear Hwt Hft hw2 hf2
        generalize preB q z = s at *
        go_wp2_with (refine stop_dst 51 rfl ?_)
        refine ⟨?_⟩
        change wpList _ _ _ _ _ (v3.alloc (.cells #[.string (bs s)] 9))
        refine append_strK rfl (.tmp 48) (.tmp 50) rfl _ out s rfl rfl (by rw [Hpl.out]; omega) w3.heap.size hzz k Hpl.out hO fun A5 c5 w5 hO5 hk5 => ?_
        simp only [Act.put, List.setIfInBounds_toArray, List.set_cons_zero, List.set_cons_succ]
        replace hKp := hKp.trans (hk5.mono (fun k' _ h' => fun he => by have := (hO.lt k' he.symm).1; omega))
        replace hX := Blk.kept hX hk5 (fun he => by have := (hO.lt _ he.symm).1; omega)
        replace hzz := Nat.le_trans hzz hk5.size
        clear hk5 hO cT1 hm hbo hb3o cT0 hm3
        rw [← Hw2.out] at hO5
        go_wp2_with fail
        refine (refOf_calls s _ (by omega)).mono ?_; rintro e w6 ⟨rfl, e6⟩
        replace hX := Blk.below hX e6 (Blk.lt hX)
        replace hO5 := owns_ext hO5 e6
        replace hKp := hKp.trans (Keep.of_ext e6)
        replace hzz := Nat.le_trans hzz e6.size
        clear e6
        have hs32 := shaOf_length s
        unfold sumV
        go_wp2_with (refine stop_store 23 (.tmp 6) (.tmp 53) rfl ?_)
        refine ⟨?_⟩
        refine wpList_store_row rfl 23 (.tmp 6) (.tmp 53) rfl w.heap.size ((shaOf s).map byteV).toArray (by rfl) (by rfl) 23 _ hX (size32.trans (by simp [hs32])) (by simp [hs32, hfl]) (by simp [byteV, Value.oneCell']) ?_
        simp only [Act.put, List.setIfInBounds_toArray, List.set_cons_zero, List.set_cons_succ]
        have hX7 : ArrB (w6.setRow w.heap.size ((shaOf s).map byteV).toArray) w.heap.size 23 (shaOf s) := Blk.row hX _
        have hX7u : Upd w.heap.size w6 (w6.setRow w.heap.size ((shaOf s).map byteV).toArray) := (Upd.refl _ _).row _
        generalize w6.setRow w.heap.size ((shaOf s).map byteV).toArray = w7 at *
        have hO7 := ownT_far (g := w.heap.size) hO5 (Keep.of_upd hX7u (fun h => h rfl)) (by omega)
        have hKp7 := hKp.trans (Keep.of_upd hX7u (fun h => h.2 rfl))
        have hz7 : w3.heap.size ≤ w7.heap.size := Nat.le_trans hzz hX7u.size
        rw [← Hf2.out] at hX7
        clear hX hO5 hKp hX7u
        go_wp2_with fail
        go_roundw
        case rel =>
          first
            | exact ⟨k + 1, _, by omega, by go_num, rfl, hX7, hO7, hz7, hKp7⟩
            | (repeat apply Exists.intro
               refine ⟨?_, rfl⟩
               exact ⟨k + 1, _, by omega, by go_num, rfl, hX7, hO7, hz7, hKp7⟩)
        case measure => simp [intOf]; omega
    · obtain rfl : k = l.length := by omega
      rw [HY.out] at hO
      have hw := Hwl.out
      rw [← hw] at hO
      have HO := Lib.hid hO
      clear hO hw
      go_wp2_with fail
      go_ret
      exact ⟨_, rfl, owns_base HO.out (by have := hE3.size; omega), (hE3.trans (hKp.mono (fun k _ h => ⟨by have := hE3.size; omega, by omega⟩))).ext⟩

set_option maxHeartbeats 4000000 in
theorem reflinked_more (m n : Nat) (hm1 : 1 ≤ m) (hm2 : m ≤ n) (hm3 : n ≤ 1099511627776) (X0 : List UInt8) (hX0' : X0.length = 32) (A : Option Addr) (cap : Nat) (lo : List (List UInt8)) (hlo : AllH lo) (hll : lo.length ≤ 1000000) (hcap : lo.length ≤ cap) (hcap63 : cap ≤ 9223372036854775807) (hcond : lo.length = (Way.parts m n).length + 1) (w : World) (hrdo : Rd w w.heap.size A (flatS lo)) :
    Calls Tryd.prog 67 #[.int .i64 (m : Int), .int .i64 (n : Int), sumV X0, .slice A lo.length cap] w fun e w' => ∃ v, e = .returned v ∧ OwnT w' w.heap.size v (wayS (lo.headD X0) (Way.parts m n).reverse lo.tail) ∧ Ext w w' := by
  have hsd := refsides_calls m n hm1 hm2 hm3
  obtain ⟨T, hT⟩ : ∃ T, T = (Way.parts m n).reverse := ⟨_, rfl⟩
  rw [← hT] at hsd
  have hTp : T.length = (Way.parts m n).length := by rw [hT, List.length_reverse]
  rw [← hTp] at hcond
  rw [← hT]
  have HSd := Lib.hid hsd
  clear hT hsd hTp
  have hlo0 : 0 < lo.length := by omega
  obtain ⟨b0, o0, rfl, hb0, hmz0⟩ := rds_mid hrdo hlo (k := 0) hlo0
  simp only [Nat.zero_mul, Nat.add_zero] at hmz0
  have hde : lo[0]'hlo0 = lo.headD X0 := by cases lo with
    | nil => simp at hlo0
    | cons u v => rfl
  rw [hde] at hmz0
  have hz0 := headD_length lo hlo X0 hX0'
  have hl := tail_all hlo
  have hdr := rds_drop hrdo hlo 1
  rw [List.drop_one, Nat.one_mul] at hdr
  have hll1 : lo.tail.length = lo.length - 1 := List.length_tail
  have hT0 : T.length = lo.tail.length := by omega
  have hlo1I : (1 : Int) ≤ (lo.length : Int) := by omega
  have hlo0I : (0 : Int) < (lo.length : Int) := by omega
  have hgt : (T.length : Int) < (lo.length : Int) := by omega
  clear hde
  generalize lo.headD X0 = z0 at *
  obtain ⟨l, hle⟩ : ∃ l, l = lo.tail := ⟨_, rfl⟩
  rw [← hle] at hl hdr hll1 hT0 ⊢
  clear hle
  have hwl := way_len z0 T l hT0
  have hfull : wayS z0 (T.take l.length) (l.take l.length) = wayS z0 T l := by rw [← hT0, List.take_length, hT0, List.take_length]
  obtain ⟨Y, hY⟩ : ∃ Y, Y = wayS z0 T l := ⟨_, rfl⟩
  rw [← hY] at hwl hfull
  have HY := Lib.hid hfull
  have Hwl := Lib.hid hwl
  have HTl := Lib.hid hT0
  rw [← hY]
  have HYY := Lib.hid hY
  have Hll1 := Lib.hid hll1
  have hll2 := hll
  clear hY hwl hfull hT0 hll1
  have Hcond := Lib.hid hcond
  clear hcond
  by_cases hc1 : cap = 1
  · subst hc1
    have hll3 : lo.length = 1 := by omega
    have HL0 : Hid (l.length = 0) := Lib.hid (by rw [Hll1.out, hll3])
    clear hll3
    have hle0 : l = [] := List.eq_nil_of_length_eq_zero HL0.out
    have HYn : Hid (Y = []) := Lib.hid (by rw [HYY.out, hle0]; cases T <;> rfl)
    clear hle0
    have hfold := fold_sum X0 hX0'
    unfold sumV
    go_enter Tryd.func67, Tryd.ntmps67
    have hB0 : ArrB (w.alloc (.cells (X0.map byteV).toArray 23)) w.heap.size 23 X0 := Blk.new _ _ _
    have hE0 : Ext w (w.alloc (.cells (X0.map byteV).toArray 23)) := (Ext.refl w).alloc _
    have hs0 : (w.alloc (.cells (X0.map byteV).toArray 23)).heap.size = w.heap.size + 1 := alloc_size _ _
    go_wp2_with fail
    change Calls _ _ _ (w.alloc (.cells (X0.map byteV).toArray 23)) _
    generalize (w.alloc (.cells (X0.map byteV).toArray 23)) = w1 at *
    refine (HSd.out _).mono ?_; rintro e w3 ⟨v, rfl, hO, e3⟩
    obtain ⟨B, c, rfl, hrT, -, -, hBb⟩ := own_rd hO
    have hX3 := Blk.below hB0 e3 (Blk.lt hB0)
    have hE3 : Keep (fun k => k < w.heap.size) w w3 := Keep.of_ext (hE0.trans e3)
    have hs3 := e3.size
    clear hB0 hE0 e3 hO
    have hm3 : w3.rangeAt b0 o0 (hcells z0) := fun i u hu => (World.cell?_of_block (hE3.block b0 hb0 hb0)).trans (hmz0 i u hu)
    go_wp2_with (refine stop_load 23 (.tmp 22) rfl ?_)
    refine ⟨?_⟩
    refine wpList_load_mid rfl 23 (.tmp 22) rfl b0 (o0) (by rfl) (hcells z0) _ hm3 Tryd.underlying23 rfl (size32l _ hz0) ?_
    simp only [Act.put, List.setIfInBounds_toArray, List.set_cons_zero, List.set_cons_succ]
    unfold hcells
    go_wp2_with (refine stop_store 23 (.tmp 6) (.tmp 23) rfl ?_)
    refine ⟨?_⟩
    refine wpList_store_row rfl 23 (.tmp 6) (.tmp 23) rfl w.heap.size ((z0).map byteV).toArray (by rfl) (by rfl) 23 _ hX3 (size32.trans (by simp [hz0])) (by simp [hz0, hX0']) (by simp [byteV, Value.oneCell']) ?_
    simp only [Act.put, List.setIfInBounds_toArray, List.set_cons_zero, List.set_cons_succ]
    have hX4 : ArrB (w3.setRow w.heap.size ((z0).map byteV).toArray) w.heap.size 23 (z0) := Blk.row hX3 _
    have hX4u : Upd w.heap.size w3 (w3.setRow w.heap.size ((z0).map byteV).toArray) := (Upd.refl _ _).row _
    generalize w3.setRow w.heap.size ((z0).map byteV).toArray = w4 at *
    have hE4 := hE3.trans (Keep.of_upd hX4u (fun h => absurd h (by omega)))
    go_wp2_with fail
    go_loopw [10, 11, 12] (fun so si _ wr => so = .slice none 0 0 ∧ si = .int .i64 0 ∧ Ext w4 wr) (fun _ _ _ _ => 0)
    case atStart => exact ⟨rfl, rfl, Ext.refl _⟩
    case round =>
      obtain ⟨wo, rfl⟩ : ∃ wo : World, wo = wr := ⟨_, rfl⟩
      obtain ⟨rfl, rfl, hX⟩ := hrel
      go_wp2_with fail
      go_ret
      exact ⟨_, rfl, by rw [HYn.out]; exact World.ownsRow_nil _ _ _ _, (hE4.trans (Keep.of_ext hX)).ext⟩
  · have hc2 : 1 < cap := by omega
    have hfold := fold_sum X0 hX0'
    unfold sumV
    go_enter Tryd.func67, Tryd.ntmps67
    have hB0 : ArrB (w.alloc (.cells (X0.map byteV).toArray 23)) w.heap.size 23 X0 := Blk.new _ _ _
    have hE0 : Ext w (w.alloc (.cells (X0.map byteV).toArray 23)) := (Ext.refl w).alloc _
    have hs0 : (w.alloc (.cells (X0.map byteV).toArray 23)).heap.size = w.heap.size + 1 := alloc_size _ _
    go_wp2_with fail
    change Calls _ _ _ (w.alloc (.cells (X0.map byteV).toArray 23)) _
    generalize (w.alloc (.cells (X0.map byteV).toArray 23)) = w1 at *
    refine (HSd.out _).mono ?_; rintro e w3 ⟨v, rfl, hO, e3⟩
    obtain ⟨B, c, rfl, hrT, -, -, hBb⟩ := own_rd hO
    have hX3 := Blk.below hB0 e3 (Blk.lt hB0)
    have hE3 : Keep (fun k => k < w.heap.size) w w3 := Keep.of_ext (hE0.trans e3)
    have hs3 := e3.size
    clear hB0 hE0 e3 hO
    have hm3 : w3.rangeAt b0 o0 (hcells z0) := fun i u hu => (World.cell?_of_block (hE3.block b0 hb0 hb0)).trans (hmz0 i u hu)
    go_wp2_with (refine stop_load 23 (.tmp 22) rfl ?_)
    refine ⟨?_⟩
    refine wpList_load_mid rfl 23 (.tmp 22) rfl b0 (o0) (by rfl) (hcells z0) _ hm3 Tryd.underlying23 rfl (size32l _ hz0) ?_
    simp only [Act.put, List.setIfInBounds_toArray, List.set_cons_zero, List.set_cons_succ]
    unfold hcells
    go_wp2_with (refine stop_store 23 (.tmp 6) (.tmp 23) rfl ?_)
    refine ⟨?_⟩
    refine wpList_store_row rfl 23 (.tmp 6) (.tmp 23) rfl w.heap.size ((z0).map byteV).toArray (by rfl) (by rfl) 23 _ hX3 (size32.trans (by simp [hz0])) (by simp [hz0, hX0']) (by simp [byteV, Value.oneCell']) ?_
    simp only [Act.put, List.setIfInBounds_toArray, List.set_cons_zero, List.set_cons_succ]
    have hX4 : ArrB (w3.setRow w.heap.size ((z0).map byteV).toArray) w.heap.size 23 (z0) := Blk.row hX3 _
    have hX4u : Upd w.heap.size w3 (w3.setRow w.heap.size ((z0).map byteV).toArray) := (Upd.refl _ _).row _
    generalize w3.setRow w.heap.size ((z0).map byteV).toArray = w4 at *
    have hE4 := hE3.trans (Keep.of_upd hX4u (fun h => absurd h (by omega)))
    have hrT4 : Rd w4 w4.heap.size B (T.map Value.bool) := fun hne => by
      obtain ⟨b5, o5, e5, hb5, hc5⟩ := hrT hne
      have := hBb b5 o5 e5
      have hk : Keep (fun k => k ≠ w.heap.size) w3 w4 := Keep.of_upd hX4u (fun h => h rfl)
      exact ⟨b5, o5, e5, Nat.lt_of_lt_of_le hb5 hk.size, fun j u hu => (World.cell?_of_block (hk.block b5 hb5 (by omega))).trans (hc5 j u hu)⟩
    have hs4 := hX4u.size
    clear hrT hX4u hm3 hX3 hE3
    have hrT := hrT4
    have hX3 := hX4
    have hE3 := hE4
    have hrd := hdr
    have hll : l.length ≤ 1000000 := by rw [Hll1.out]; omega
    have hls : lo.length - 1 = l.length := Hll1.out.symm
    clear hrT4 hX4 hE4 hdr hgt hlo1I hlo0I
    go_wp2_with fail
    try rw [hls]
    have dN : decide (T.length < lo.length) = true := decide_eq_true (by have := HTl.out; omega)
    try simp only [dN]
    clear dN
    obtain ⟨A', hA'⟩ : ∃ A' : Option Addr, A' = some ⟨b0, o0 + 32, none⟩ := ⟨_, rfl⟩
    rw [← hA'] at hrd ⊢
    have HA' := Lib.hid hA'
    clear hA'
    have HLs := Lib.hid hls
    clear hls
    go_loopw [10, 11, 12] (fun so si _ wr => ∃ (k : Nat) (v : Value), k ≤ l.length ∧ si = .int .i64 (k : Int) ∧ so = v ∧ ArrB wr w.heap.size 23 (Way.foldW nodeB z0 (T.take k) (l.take k)) ∧ wr.ownsRow w4.heap.size 9 1 v k ((wayS z0 (T.take k) (l.take k)).map strV) ∧ w4.heap.size ≤ wr.heap.size ∧ Keep (fun k => k < w4.heap.size ∧ k ≠ w.heap.size) w4 wr) (fun _ si _ _ => l.length - (intOf si).toNat)
    case atStart => exact ⟨0, _, Nat.zero_le _, rfl, rfl, by rw [List.take_zero, Way.foldW_nil]; exact hX3, by rw [List.take_zero]; exact World.ownsRow_nil _ _ _ _, Nat.le_refl _, Keep.refl _ _⟩
    case round =>
      obtain ⟨wo, rfl⟩ : ∃ wo : World, wo = wr := ⟨_, rfl⟩
      obtain ⟨k, v, hk, rfl, rfl, hX, hO, hzz, hKp⟩ := hrel
      by_cases hlt : k < l.length
      · have hlI : (k : Int) < (l.length : Int) := by omega
        have hkT : k < T.length := by rw [HTl.out]; exact hlt
        have hTI : (k : Int) < (T.length : Int) := by omega
        obtain ⟨b3, o3, rfl, hb3, hcT⟩ := hrT (map_ne Value.bool hkT)
        have hbb3 := hBb b3 o3 rfl
        have cT0 : w4.cell? ⟨b3, o3 + k, none⟩ = some (.bool T[k]) := hcT k (.bool T[k]) (by simp [hkT])
        obtain ⟨b, off, rfl, hbl, hm0⟩ := rds_mid hrd hl hlt
        have hb3w : b < w4.heap.size := Nat.lt_of_lt_of_le hbl hE3.size
        have hm3 : w4.rangeAt b (off + k * 32) (hcells l[k]) := fun i u hu => (World.cell?_of_block (hE3.block b hbl hbl)).trans (hm0 i u hu)
        have hq : l[k].length = 32 := hl _ (List.getElem_mem hlt)
        have hfl := foldW_length (T.take k) (l.take k) z0 hz0
        have hwt := way_take z0 T l k hkT hlt
        have hft := foldW_take z0 T l k hkT hlt
        rw [turn_sha] at hft
        have hpl : (wayS z0 (T.take k) (l.take k)).length = k := by rw [way_len _ _ _ (by rw [List.length_take, List.length_take]; omega), List.length_take]; omega
        generalize l[k] = q at *
        generalize T[k] = tk at *
        generalize Way.foldW nodeB z0 (T.take k) (l.take k) = z at *
        generalize wayS z0 (T.take k) (l.take k) = out at *
        have Hwt := Lib.hid hwt
        have Hft := Lib.hid hft
        have Hpl := Lib.hid hpl
        clear hwt hft hcT hpl hm0
        have cT1 : wo.cell? ⟨b3, o3 + k, none⟩ = some (.bool tk) := (World.cell?_of_block (hKp.block b3 (by omega) ⟨by omega, by omega⟩)).trans cT0
        have hm : wo.rangeAt b (off + k * 32) (hcells q) := fun i u hu => (World.cell?_of_block (hKp.block b (by omega) ⟨by omega, by omega⟩)).trans (hm3 i u hu)
        have hbo : b < wo.heap.size := by have := hKp.size; omega
        have hb3o : b3 < wo.heap.size := by have := hKp.size; omega
        cases tk
        · skip
          go_wp2_with fail
          refine region_mix0 (by kernel_rfl) (by kernel_rfl) (fun y0 => ?_)
          refine mix_row (by rfl) (by rfl) 23 (.tmp 6) rfl w.heap.size (by rfl) 23 _ _ hX Tryd.underlying23 rfl (size32.trans (by simp [hfl])) ?_
          simp only [Act.put, List.setIfInBounds_toArray, List.set_cons_zero, List.set_cons_succ]
          iterate 3 (first | (refine mix_quiet (by rfl) (by rfl) (fun K hK => ?_); go_big_quiet_op; refine hK _ ?_; clear hK K) | (refine mix_skip (by rfl) ?_; simp only [Act.put, List.setIfInBounds_toArray, List.set_cons_zero, List.set_cons_succ]))
          refine mix_mid (by rfl) (by rfl) 23 (.tmp 35) rfl b (off + k * 32) (by rfl) _ _ hm hbo Tryd.underlying23 rfl (size32l _ hq) ?_
          simp only [Act.put, List.setIfInBounds_toArray, List.set_cons_zero, List.set_cons_succ]
          unfold hcells
          (refine mix_loud (by rfl) (by rfl) (fun K E hK => ?_); go_big_op)
          change Calls _ _ #[sumV z, sumV q] _ _
          refine (refPreimage_calls z q hfl hq _).mono ?_; rintro e w5 ⟨rfl, hd⟩
          obtain ⟨x', rfl⟩ := more_ext _ hd; clear hd
          refine hK _ _ ⟨_, rfl⟩ ?_; clear hK K E
          repeat (first | (refine mix_quiet (by rfl) (by rfl) (fun K hK => ?_); go_big_quiet_op; refine hK _ ?_; clear hK K) | (refine mix_skip (by rfl) ?_; simp only [Act.put, List.setIfInBounds_toArray, List.set_cons_zero, List.set_cons_succ]))
          refine mix_nil ?_
          have e2 := grow_ext x'
          generalize grow wo x' = v1 at *
          replace hX := Blk.below hX e2 (Blk.lt hX)
          replace hO := owns_ext hO e2
          replace hKp := hKp.trans (Keep.of_ext e2)
          replace hzz := Nat.le_trans hzz e2.size
          replace cT1 : v1.cell? ⟨b3, o3 + k, none⟩ = some (.bool false) := (World.cell?_of_block (hKp.block b3 (by omega) ⟨by omega, by omega⟩)).trans cT0
          replace hm : v1.rangeAt b (off + k * 32) (hcells q) := fun i u hu => (World.cell?_of_block (hKp.block b (by omega) ⟨by omega, by omega⟩)).trans (hm3 i u hu)
          replace hbo : b < v1.heap.size := by have := hKp.size; omega
          replace hb3o : b3 < v1.heap.size := by have := hKp.size; omega
          clear e2
          have hsl : (preB z q).length = 65 := by rw [preB_length]; omega
          have hw2 : wayS z0 (T.take (k + 1)) (l.take (k + 1)) = out ++ [preB z q] := Hwt.out
          have hf2 : Way.foldW nodeB z0 (T.take (k + 1)) (l.take (k + 1)) = shaOf (preB z q) := Hft.out
          have Hw2 := Lib.hid hw2
          have Hf2 := Lib.hid hf2
          clear Hwt Hft hw2 hf2
          generalize preB z q = s at *
          go_wp2_with (refine stop_dst 51 rfl ?_)
          refine ⟨?_⟩
          change wpList _ _ _ _ _ (v1.alloc (.cells #[.string (bs s)] 9))
          refine append_strK rfl (.tmp 48) (.tmp 50) rfl _ out s rfl rfl (by rw [Hpl.out]; omega) w4.heap.size hzz k Hpl.out hO fun A5 c5 w5 hO5 hk5 => ?_
          simp only [Act.put, List.setIfInBounds_toArray, List.set_cons_zero, List.set_cons_succ]
          replace hKp := hKp.trans (hk5.mono (fun k' _ h' => fun he => by have := (hO.lt k' he.symm).1; omega))
          replace hX := Blk.kept hX hk5 (fun he => by have := (hO.lt _ he.symm).1; omega)
          replace hzz := Nat.le_trans hzz hk5.size
          clear hk5 hO cT1 hm hbo hb3o cT0 hm3
          rw [← Hw2.out] at hO5
          go_wp2_with fail
          refine (refOf_calls s _ (by omega)).mono ?_; rintro e w6 ⟨rfl, e6⟩
          replace hX := Blk.below hX e6 (Blk.lt hX)
          replace hO5 := owns_ext hO5 e6
          replace hKp := hKp.trans (Keep.of_ext e6)
          replace hzz := Nat.le_trans hzz e6.size
          clear e6
          have hs32 := shaOf_length s
          unfold sumV
          go_wp2_with (refine stop_store 23 (.tmp 6) (.tmp 53) rfl ?_)
          refine ⟨?_⟩
          refine wpList_store_row rfl 23 (.tmp 6) (.tmp 53) rfl w.heap.size ((shaOf s).map byteV).toArray (by rfl) (by rfl) 23 _ hX (size32.trans (by simp [hs32])) (by simp [hs32, hfl]) (by simp [byteV, Value.oneCell']) ?_
          simp only [Act.put, List.setIfInBounds_toArray, List.set_cons_zero, List.set_cons_succ]
          have hX7 : ArrB (w6.setRow w.heap.size ((shaOf s).map byteV).toArray) w.heap.size 23 (shaOf s) := Blk.row hX _
          have hX7u : Upd w.heap.size w6 (w6.setRow w.heap.size ((shaOf s).map byteV).toArray) := (Upd.refl _ _).row _
          generalize w6.setRow w.heap.size ((shaOf s).map byteV).toArray = w7 at *
          have hO7 := ownT_far (g := w.heap.size) hO5 (Keep.of_upd hX7u (fun h => h rfl)) (by omega)
          have hKp7 := hKp.trans (Keep.of_upd hX7u (fun h => h.2 rfl))
          have hz7 : w4.heap.size ≤ w7.heap.size := Nat.le_trans hzz hX7u.size
          rw [← Hf2.out] at hX7
          clear hX hO5 hKp hX7u
          go_wp2_with fail
          go_roundw
          case rel =>
            first
              | exact ⟨k + 1, _, by omega, by go_num, rfl, hX7, hO7, hz7, hKp7⟩
              | (repeat apply Exists.intro
                 refine ⟨?_, rfl⟩
                 exact ⟨k + 1, _, by omega, by go_num, rfl, hX7, hO7, hz7, hKp7⟩)
          case measure => simp [intOf]; omega
        · skip
          go_wp2_with fail
          refine region_mix0 (by kernel_rfl) (by kernel_rfl) (fun y0 => ?_)
          refine mix_row (by rfl) (by rfl) 23 (.tmp 6) rfl w.heap.size (by rfl) 23 _ _ hX Tryd.underlying23 rfl (size32.trans (by simp [hfl])) ?_
          simp only [Act.put, List.setIfInBounds_toArray, List.set_cons_zero, List.set_cons_succ]
          iterate 3 (first | (refine mix_quiet (by rfl) (by rfl) (fun K hK => ?_); go_big_quiet_op; refine hK _ ?_; clear hK K) | (refine mix_skip (by rfl) ?_; simp only [Act.put, List.setIfInBounds_toArray, List.set_cons_zero, List.set_cons_succ]))
          refine mix_mid (by rfl) (by rfl) 23 (.tmp 35) rfl b (off + k * 32) (by rfl) _ _ hm hbo Tryd.underlying23 rfl (size32l _ hq) ?_
          simp only [Act.put, List.setIfInBounds_toArray, List.set_cons_zero, List.set_cons_succ]
          unfold hcells
          (refine mix_loud (by rfl) (by rfl) (fun K E hK => ?_); go_big_op)
          change Calls _ _ #[sumV z, sumV q] _ _
          refine (refPreimage_calls z q hfl hq _).mono ?_; rintro e w5 ⟨rfl, hd⟩
          obtain ⟨x', rfl⟩ := more_ext _ hd; clear hd
          refine hK _ _ ⟨_, rfl⟩ ?_; clear hK K E
          repeat (first | (refine mix_quiet (by rfl) (by rfl) (fun K hK => ?_); go_big_quiet_op; refine hK _ ?_; clear hK K) | (refine mix_skip (by rfl) ?_; simp only [Act.put, List.setIfInBounds_toArray, List.set_cons_zero, List.set_cons_succ]))
          refine mix_nil ?_
          have e2 := grow_ext x'
          generalize grow wo x' = v1 at *
          replace hX := Blk.below hX e2 (Blk.lt hX)
          replace hO := owns_ext hO e2
          replace hKp := hKp.trans (Keep.of_ext e2)
          replace hzz := Nat.le_trans hzz e2.size
          replace cT1 : v1.cell? ⟨b3, o3 + k, none⟩ = some (.bool true) := (World.cell?_of_block (hKp.block b3 (by omega) ⟨by omega, by omega⟩)).trans cT0
          replace hm : v1.rangeAt b (off + k * 32) (hcells q) := fun i u hu => (World.cell?_of_block (hKp.block b (by omega) ⟨by omega, by omega⟩)).trans (hm3 i u hu)
          replace hbo : b < v1.heap.size := by have := hKp.size; omega
          replace hb3o : b3 < v1.heap.size := by have := hKp.size; omega
          clear e2
          go_wp2_with fail
          refine region_mix0 (by kernel_rfl) (by kernel_rfl) (fun y0 => ?_)
          iterate 3 (first | (refine mix_quiet (by rfl) (by rfl) (fun K hK => ?_); go_big_quiet_op; refine hK _ ?_; clear hK K) | (refine mix_skip (by rfl) ?_; simp only [Act.put, List.setIfInBounds_toArray, List.set_cons_zero, List.set_cons_succ]))
          refine mix_mid (by rfl) (by rfl) 23 (.tmp 44) rfl b (off + k * 32) (by rfl) _ _ hm hbo Tryd.underlying23 rfl (size32l _ hq) ?_
          simp only [Act.put, List.setIfInBounds_toArray, List.set_cons_zero, List.set_cons_succ]
          refine mix_row (by rfl) (by rfl) 23 (.tmp 6) rfl w.heap.size (by rfl) 23 _ _ hX Tryd.underlying23 rfl (size32.trans (by simp [hfl])) ?_
          simp only [Act.put, List.setIfInBounds_toArray, List.set_cons_zero, List.set_cons_succ]
          unfold hcells
          (refine mix_loud (by rfl) (by rfl) (fun K E hK => ?_); go_big_op)
          change Calls _ _ #[sumV q, sumV z] _ _
          refine (refPreimage_calls q z hq hfl _).mono ?_; rintro e w5 ⟨rfl, hd⟩
          obtain ⟨x', rfl⟩ := more_ext _ hd; clear hd
          refine hK _ _ ⟨_, rfl⟩ ?_; clear hK K E
          repeat (first | (refine mix_quiet (by rfl) (by rfl) (fun K hK => ?_); go_big_quiet_op; refine hK _ ?_; clear hK K) | (refine mix_skip (by rfl) ?_; simp only [Act.put, List.setIfInBounds_toArray, List.set_cons_zero, List.set_cons_succ]))
          refine mix_nil ?_
          have e4 := grow_ext x'
          generalize grow v1 x' = v3 at *
          replace hX := Blk.below hX e4 (Blk.lt hX)
          replace hO := owns_ext hO e4
          replace hKp := hKp.trans (Keep.of_ext e4)
          replace hzz := Nat.le_trans hzz e4.size
          replace cT1 : v3.cell? ⟨b3, o3 + k, none⟩ = some (.bool true) := (World.cell?_of_block (hKp.block b3 (by omega) ⟨by omega, by omega⟩)).trans cT0
          replace hm : v3.rangeAt b (off + k * 32) (hcells q) := fun i u hu => (World.cell?_of_block (hKp.block b (by omega) ⟨by omega, by omega⟩)).trans (hm3 i u hu)
          replace hbo : b < v3.heap.size := by have := hKp.size; omega
          replace hb3o : b3 < v3.heap.size := by have := hKp.size; omega
          clear e4
          have hsl : (preB q z).length = 65 := by rw [preB_length]; omega
          have hw2 : wayS z0 (T.take (k + 1)) (l.take (k + 1)) = out ++ [preB q z] := Hwt.out
          have hf2 : Way.foldW nodeB z0 (T.take (k + 1)) (l.take (k + 1)) = shaOf (preB q z) := Hft.out
          have Hw2 := Lib.hid hw2
          have Hf2 := Lib.hid hf2
          clear Hwt Hft hw2 hf2
          generalize preB q z = s at *
          go_wp2_with (refine stop_dst 51 rfl ?_)
          refine ⟨?_⟩
          change wpList _ _ _ _ _ (v3.alloc (.cells #[.string (bs s)] 9))
          refine append_strK rfl (.tmp 48) (.tmp 50) rfl _ out s rfl rfl (by rw [Hpl.out]; omega) w4.heap.size hzz k Hpl.out hO fun A5 c5 w5 hO5 hk5 => ?_
          simp only [Act.put, List.setIfInBounds_toArray, List.set_cons_zero, List.set_cons_succ]
          replace hKp := hKp.trans (hk5.mono (fun k' _ h' => fun he => by have := (hO.lt k' he.symm).1; omega))
          replace hX := Blk.kept hX hk5 (fun he => by have := (hO.lt _ he.symm).1; omega)
          replace hzz := Nat.le_trans hzz hk5.size
          clear hk5 hO cT1 hm hbo hb3o cT0 hm3
          rw [← Hw2.out] at hO5
          go_wp2_with fail
          refine (refOf_calls s _ (by omega)).mono ?_; rintro e w6 ⟨rfl, e6⟩
          replace hX := Blk.below hX e6 (Blk.lt hX)
          replace hO5 := owns_ext hO5 e6
          replace hKp := hKp.trans (Keep.of_ext e6)
          replace hzz := Nat.le_trans hzz e6.size
          clear e6
          have hs32 := shaOf_length s
          unfold sumV
          go_wp2_with (refine stop_store 23 (.tmp 6) (.tmp 53) rfl ?_)
          refine ⟨?_⟩
          refine wpList_store_row rfl 23 (.tmp 6) (.tmp 53) rfl w.heap.size ((shaOf s).map byteV).toArray (by rfl) (by rfl) 23 _ hX (size32.trans (by simp [hs32])) (by simp [hs32, hfl]) (by simp [byteV, Value.oneCell']) ?_
          simp only [Act.put, List.setIfInBounds_toArray, List.set_cons_zero, List.set_cons_succ]
          have hX7 : ArrB (w6.setRow w.heap.size ((shaOf s).map byteV).toArray) w.heap.size 23 (shaOf s) := Blk.row hX _
          have hX7u : Upd w.heap.size w6 (w6.setRow w.heap.size ((shaOf s).map byteV).toArray) := (Upd.refl _ _).row _
          generalize w6.setRow w.heap.size ((shaOf s).map byteV).toArray = w7 at *
          have hO7 := ownT_far (g := w.heap.size) hO5 (Keep.of_upd hX7u (fun h => h rfl)) (by omega)
          have hKp7 := hKp.trans (Keep.of_upd hX7u (fun h => h.2 rfl))
          have hz7 : w4.heap.size ≤ w7.heap.size := Nat.le_trans hzz hX7u.size
          rw [← Hf2.out] at hX7
          clear hX hO5 hKp hX7u
          go_wp2_with fail
          go_roundw
          case rel =>
            first
              | exact ⟨k + 1, _, by omega, by go_num, rfl, hX7, hO7, hz7, hKp7⟩
              | (repeat apply Exists.intro
                 refine ⟨?_, rfl⟩
                 exact ⟨k + 1, _, by omega, by go_num, rfl, hX7, hO7, hz7, hKp7⟩)
          case measure => simp [intOf]; omega
      · obtain rfl : k = l.length := by omega
        rw [HY.out] at hO
        have hw := Hwl.out
        rw [← hw] at hO
        have HO := Lib.hid hO
        clear hO hw
        go_wp2_with fail
        go_ret
        exact ⟨_, rfl, owns_base HO.out (by have := hE3.size; omega), (hE3.trans (hKp.mono (fun k _ h => ⟨by have := hE3.size; omega, by omega⟩))).ext⟩

theorem linked_any (m n : Nat) (hm1 : 1 ≤ m) (hm2 : m ≤ n) (hm3 : n ≤ 1099511627776) (X0 : List UInt8) (hX0' : X0.length = 32) (A : Option Addr) (cap : Nat) (lo : List (List UInt8)) (hlo : AllH lo) (hll : lo.length ≤ 1000000) (hcap : lo.length ≤ cap) (hcap63 : cap ≤ 9223372036854775807) (hcond : lo.length = (Way.parts m n).length ∨ lo.length = (Way.parts m n).length + 1) (w : World) (hrdo : Rd w w.heap.size A (flatS lo)) :
    Calls Tryd.prog 67 #[.int .i64 (m : Int), .int .i64 (n : Int), sumV X0, .slice A lo.length cap] w fun e w' => ∃ v, e = .returned v ∧ OwnT w' w.heap.size v (linkedS X0 (Way.parts m n).reverse lo) ∧ Ext w w' := by
  have hTl : (Way.parts m n).reverse.length = (Way.parts m n).length := List.length_reverse
  rcases hcond with h | h
  · have : linkedS X0 (Way.parts m n).reverse lo = wayS X0 (Way.parts m n).reverse lo := if_pos (by omega)
    rw [this]
    exact reflinked_whole m n hm1 hm2 hm3 X0 hX0' A cap lo hlo hll hcap hcap63 h w hrdo
  · have : linkedS X0 (Way.parts m n).reverse lo = wayS (lo.headD X0) (Way.parts m n).reverse lo.tail := if_neg (by omega)
    rw [this]
    exact reflinked_more m n hm1 hm2 hm3 X0 hX0' A cap lo hlo hll hcap hcap63 h w hrdo

set_option maxHeartbeats 8000000 in
theorem refTrees_calls (m n : Int) (x y : List UInt8) (hx : x.length = 32) (hy : y.length = 32) (va vb : Value) (a b : List (List UInt8)) (ha : AllH a) (hb : AllH b) (hal : a.length ≤ 1000000) (hbl : b.length ≤ 1000000) (w : World) (hSa : SlS w w.heap.size va a) (hSb : SlS w w.heap.size vb b) :
    Calls Tryd.prog 44 #[.int .i64 m, .int .i64 n, sumV x, sumV y, va, vb] w fun e w' => e = .returned (.tuple #[.agg (twC (treesP m n x y a b)), .bool (treesP m n x y a b).isSome]) ∧ Ext w w' := by
  obtain ⟨R, hR⟩ : ∃ R, R = treesP m n x y a b := ⟨_, rfl⟩
  rw [← hR]
  have hpx := bothP_length x hx m n a ha
  have hpy := bothP_length y hy m n b hb
  have hok := both_ok x m n a
  have hok2 := both_ok y m n b
  unfold treesP at hR
  obtain ⟨P, hP⟩ : ∃ P, P = bothP x m n a := ⟨_, rfl⟩
  obtain ⟨Q, hQ⟩ : ∃ Q, Q = bothP y m n b := ⟨_, rfl⟩
  rw [← hP] at hR hpx hok
  rw [← hQ] at hR hpy hok2
  obtain ⟨⟨p0, p⟩, i⟩ := P
  obtain ⟨⟨q0, q⟩, j⟩ := Q
  obtain ⟨hp0, hpl⟩ := hpx
  obtain ⟨hq0, hql⟩ := hpy
  dsimp only at hR hok hok2 hp0 hpl hq0 hql
  have HP := Lib.hid hP
  have HQ := Lib.hid hQ
  have HR := Lib.hid hR
  have HO1 := Lib.hid hok
  have HO2 := Lib.hid hok2
  clear hP hQ hR hok hok2
  have hgw := guard_sum
  have hfx := fold_sum x hx
  have hfy := fold_sum y hy
  have heq := fun w : World => eq_sum p q hpl hql w
  obtain ⟨d, hd0⟩ : ∃ d, d = decide (p = q) := ⟨_, rfl⟩
  rw [← hd0] at heq
  have HD := Lib.hid hd0
  clear hd0
  unfold sumV
  go_enter Tryd.func44, Tryd.ntmps44
  have hX : ArrB (((w.alloc (.cells (x.map byteV).toArray 23)).alloc (.cells (y.map byteV).toArray 23)).alloc (.cells #[.string (bs []), .string (bs [])] 57)) w.heap.size 23 x := Blk.alloc (Blk.alloc (Blk.new _ _ _) _) _
  have hY : ArrB (((w.alloc (.cells (x.map byteV).toArray 23)).alloc (.cells (y.map byteV).toArray 23)).alloc (.cells #[.string (bs []), .string (bs [])] 57)) (w.heap.size + 1) 23 y := by
    have := Blk.new (w.alloc (.cells (x.map byteV).toArray 23)) 23 (y.map byteV).toArray
    rw [alloc_size] at this
    exact Blk.alloc this _
  have hZ : Blk (((w.alloc (.cells (x.map byteV).toArray 23)).alloc (.cells (y.map byteV).toArray 23)).alloc (.cells #[.string (bs []), .string (bs [])] 57)) (w.heap.size + 1 + 1) 57 #[.string (bs []), .string (bs [])] := by
    have := Blk.new ((w.alloc (.cells (x.map byteV).toArray 23)).alloc (.cells (y.map byteV).toArray 23)) 57 #[.string (bs []), .string (bs [])]
    simp only [alloc_size] at this
    exact this
  have hE : Ext w (((w.alloc (.cells (x.map byteV).toArray 23)).alloc (.cells (y.map byteV).toArray 23)).alloc (.cells #[.string (bs []), .string (bs [])] 57)) := (((Ext.refl w).alloc _).alloc _).alloc _
  have hSa1 := hSa.ext hE
  have hSb1 := hSb.ext hE
  obtain ⟨Aa, ca, hva, hAa, hca, hca63, hra0⟩ := id hSa
  obtain ⟨Ab, cb, hvb, hAb, hcb, hcb63, hrb0⟩ := id hSb
  subst hva
  subst hvb
  clear hSa hSb
  go_wp2_with (refine stop_load 23 (.tmp 8) rfl ?_)
  refine ⟨?_⟩
  change wpList _ _ _ _ _ (((w.alloc (.cells (x.map byteV).toArray 23)).alloc (.cells (y.map byteV).toArray 23)).alloc (.cells #[.string (bs []), .string (bs [])] 57))
  generalize ((w.alloc (.cells (x.map byteV).toArray 23)).alloc (.cells (y.map byteV).toArray 23)).alloc (.cells #[.string (bs []), .string (bs [])] 57) = w1 at *
  refine wpList_load_row rfl 23 (.tmp 8) rfl w.heap.size (by rfl) 23 _ (0, 0) _ hX Tryd.underlying23 rfl (size32.trans (by simp [hx])) ?_
  simp only [Act.put, List.setIfInBounds_toArray, List.set_cons_zero, List.set_cons_succ]
  go_wp2_with fail
  change Calls _ _ #[sumV x, _, _, _] _ _
  refine (refBoth_sls x hx m n _ a ha hal _ hSa1).mono ?_; rw [← HP.out]; rintro e v2 ⟨rfl, e1⟩
  replace hX := Blk.below hX e1 (Blk.lt hX)
  replace hY := Blk.below hY e1 (Blk.lt hY)
  replace hZ := Blk.below hZ e1 (Blk.lt hZ)
  replace hSa1 := hSa1.ext e1
  replace hSb1 := hSb1.ext e1
  replace hE := hE.trans e1
  clear e1
  unfold sumV
  go_wp2_with (refine stop_store 23 (.tmp 14) (.tmp 26) rfl ?_)
  refine ⟨?_⟩
  change wpList _ _ _ _ _ (twoW v2)
  refine wpList_store_row rfl 23 (.tmp 14) (.tmp 26) rfl v2.heap.size ((p0).map byteV).toArray (by rfl) (by rfl) 23 _ (twoW_facts v2).1 (size32.trans (by simp [hp0])) (by simp [hp0, zerosB]) (by simp [byteV, Value.oneCell']) ?_
  simp only [Act.put, List.setIfInBounds_toArray, List.set_cons_zero, List.set_cons_succ]
  obtain ⟨hA0, hA0, hA, e4⟩ := two_rows v2 p0 p
  go_wp2_with (refine stop_store 23 (.tmp 15) (.tmp 27) rfl ?_)
  refine ⟨?_⟩
  refine wpList_store_row rfl 23 (.tmp 15) (.tmp 27) rfl (v2.heap.size + 1) ((p).map byteV).toArray (by rfl) (by rfl) 23 _ hA0 (size32.trans (by simp [hpl])) (by simp [hpl, zerosB]) (by simp [byteV, Value.oneCell']) ?_
  simp only [Act.put, List.setIfInBounds_toArray, List.set_cons_zero, List.set_cons_succ]
  clear hA0
  obtain ⟨g5, g5e⟩ : ∃ g5, g5 = v2.heap.size := ⟨_, rfl⟩
  rw [← g5e] at hA0 hA e4 ⊢
  generalize ((twoW v2).setRow g5 ((p0).map byteV).toArray).setRow (g5 + 1) ((p).map byteV).toArray = v3 at *
  replace hX := Blk.below hX e4 (Blk.lt hX)
  replace hY := Blk.below hY e4 (Blk.lt hY)
  replace hZ := Blk.below hZ e4 (Blk.lt hZ)
  replace hSa1 := hSa1.ext e4
  replace hSb1 := hSb1.ext e4
  replace hE := hE.trans e4
  clear e4
  clear g5e
  go_wp2_with (refine stop_load 23 (.tmp 9) rfl ?_)
  refine ⟨?_⟩
  refine wpList_load_row rfl 23 (.tmp 9) rfl (w.heap.size + 1) (by rfl) 23 _ (0, 0) _ hY Tryd.underlying23 rfl (size32.trans (by simp [hy])) ?_
  simp only [Act.put, List.setIfInBounds_toArray, List.set_cons_zero, List.set_cons_succ]
  go_wp2_with fail
  change Calls _ _ #[sumV y, _, _, _] _ _
  refine (refBoth_sls y hy m n _ b hb hbl _ hSb1).mono ?_; rw [← HQ.out]; rintro e v7 ⟨rfl, e6⟩
  replace hX := Blk.below hX e6 (Blk.lt hX)
  replace hY := Blk.below hY e6 (Blk.lt hY)
  replace hZ := Blk.below hZ e6 (Blk.lt hZ)
  replace hSa1 := hSa1.ext e6
  replace hSb1 := hSb1.ext e6
  replace hA0 := Blk.below hA0 e6 (Blk.lt hA0)
  replace hA := Blk.below hA e6 (Blk.lt hA)
  replace hE := hE.trans e6
  clear e6
  unfold sumV
  go_wp2_with (refine stop_store 23 (.tmp 17) (.tmp 35) rfl ?_)
  refine ⟨?_⟩
  change wpList _ _ _ _ _ (twoW v7)
  refine wpList_store_row rfl 23 (.tmp 17) (.tmp 35) rfl v7.heap.size ((q0).map byteV).toArray (by rfl) (by rfl) 23 _ (twoW_facts v7).1 (size32.trans (by simp [hq0])) (by simp [hq0, zerosB]) (by simp [byteV, Value.oneCell']) ?_
  simp only [Act.put, List.setIfInBounds_toArray, List.set_cons_zero, List.set_cons_succ]
  obtain ⟨hB0, hB0, hB, e9⟩ := two_rows v7 q0 q
  go_wp2_with (refine stop_store 23 (.tmp 18) (.tmp 36) rfl ?_)
  refine ⟨?_⟩
  refine wpList_store_row rfl 23 (.tmp 18) (.tmp 36) rfl (v7.heap.size + 1) ((q).map byteV).toArray (by rfl) (by rfl) 23 _ hB0 (size32.trans (by simp [hql])) (by simp [hql, zerosB]) (by simp [byteV, Value.oneCell']) ?_
  simp only [Act.put, List.setIfInBounds_toArray, List.set_cons_zero, List.set_cons_succ]
  clear hB0
  obtain ⟨g10, g10e⟩ : ∃ g10, g10 = v7.heap.size := ⟨_, rfl⟩
  rw [← g10e] at hB0 hB e9 ⊢
  generalize ((twoW v7).setRow g10 ((q0).map byteV).toArray).setRow (g10 + 1) ((q).map byteV).toArray = v8 at *
  replace hX := Blk.below hX e9 (Blk.lt hX)
  replace hY := Blk.below hY e9 (Blk.lt hY)
  replace hZ := Blk.below hZ e9 (Blk.lt hZ)
  replace hSa1 := hSa1.ext e9
  replace hSb1 := hSb1.ext e9
  replace hA0 := Blk.below hA0 e9 (Blk.lt hA0)
  replace hA := Blk.below hA e9 (Blk.lt hA)
  replace hE := hE.trans e9
  clear e9
  clear g10e
  have z0 : v8.cell? ⟨w.heap.size + 1 + 1, 0, none⟩ = some (.string (bs [])) := Blk.cell hZ 0
  have z1 : v8.cell? ⟨w.heap.size + 1 + 1, 1, none⟩ = some (.string (bs [])) := Blk.cell hZ 1
  have f0 := Blk.frozen hZ 0
  have f1 := Blk.frozen hZ 1
  have hzl := Blk.lt hZ
  cases i
  · obtain rfl : R = none := HR.out
    go_wp2_with fail
    have hR5 := Blk.set_ (Blk.set_ hZ 0 (.string ⟨#[]⟩)) 1 (.string ⟨#[]⟩)
    refine bodyPost_ret (res_cell_t rfl _ _ (w.heap.size + 1 + 1) 57 _ _ rfl hR5 Tryd.underlying57 rfl size_twins) rfl ?_
    exact ⟨rfl, (hE.setCell (by simp; omega) _).setCell (by simp; omega) _⟩
  cases j
  · obtain rfl : R = none := HR.out
    go_wp2_with fail
    have hR5 := Blk.set_ (Blk.set_ hZ 0 (.string ⟨#[]⟩)) 1 (.string ⟨#[]⟩)
    refine bodyPost_ret (res_cell_t rfl _ _ (w.heap.size + 1 + 1) 57 _ _ rfl hR5 Tryd.underlying57 rfl size_twins) rfl ?_
    exact ⟨rfl, (hE.setCell (by simp; omega) _).setCell (by simp; omega) _⟩
  cases d
  · have hpq : ¬ p = q := of_decide_eq_false HD.out.symm
    obtain rfl : R = none := HR.out.trans (if_neg (by simp [hpq]))
    clear hpq
    go_wp2_with (refine stop_load 23 (.tmp 15) rfl ?_)
    refine ⟨?_⟩
    refine list_want (by rfl) (fun K hK => ?_)
    refine wp_load_row 23 (.tmp 15) rfl (g5 + 1) (by rfl) 23 _ (0, 0) _ hA Tryd.underlying23 rfl (size32.trans (by simp [hpl])) ?_
    refine hK _ _ ?_; clear hK K
    simp only [Act.put, List.setIfInBounds_toArray, List.set_cons_zero, List.set_cons_succ]
    go_wp2_with (refine stop_load 23 (.tmp 18) rfl ?_)
    refine ⟨?_⟩
    refine list_want (by rfl) (fun K hK => ?_)
    refine wp_load_row 23 (.tmp 18) rfl (g10 + 1) (by rfl) 23 _ (0, 0) _ hB Tryd.underlying23 rfl (size32.trans (by simp [hql])) ?_
    refine hK _ _ ?_; clear hK K
    simp only [Act.put, List.setIfInBounds_toArray, List.set_cons_zero, List.set_cons_succ]
    go_wp2_with fail
    have hR5 := Blk.set_ (Blk.set_ hZ 0 (.string ⟨#[]⟩)) 1 (.string ⟨#[]⟩)
    refine bodyPost_ret (res_cell_t rfl _ _ (w.heap.size + 1 + 1) 57 _ _ rfl hR5 Tryd.underlying57 rfl size_twins) rfl ?_
    exact ⟨rfl, (hE.setCell (by simp; omega) _).setCell (by simp; omega) _⟩
  have hpq : p = q := of_decide_eq_true HD.out.symm
  have hR : R = treesIn x y a b (Way.parts m.toNat n.toNat).reverse := HR.out.trans (if_pos (by simp [hpq]))
  obtain ⟨hm1, hm2, hm3, hm4⟩ := HO1.out rfl
  obtain ⟨-, -, -, hm5⟩ := HO2.out rfl
  obtain ⟨mN, rfl⟩ : ∃ k : Nat, m = (k : Int) := ⟨m.toNat, by omega⟩
  obtain ⟨nN, rfl⟩ : ∃ k : Nat, n = (k : Int) := ⟨n.toNat, by omega⟩
  simp only [Int.toNat_natCast] at hR hm4 hm5
  have hlab : a.length = b.length := by
    have h1 : Way.linksI (mN : Int) (nN : Int) = (a.length : Int) := by
      have h2 : (bothP x (mN : Int) (nN : Int) a).2 = true := by rw [← HP.out]
      unfold bothP at h2
      split at h2
      · assumption
      · cases h2
    have h1' : Way.linksI (mN : Int) (nN : Int) = (b.length : Int) := by
      have h2 : (bothP y (mN : Int) (nN : Int) b).2 = true := by rw [← HQ.out]
      unfold bothP at h2
      split at h2
      · assumption
      · cases h2
    omega
  have hTl : (Way.parts mN nN).reverse.length = (Way.parts mN nN).length := List.length_reverse
  have hla := fun A c h1 h2 => linked_any mN nN (by omega) (by omega) (by omega) x hx A c a ha hal h1 h2 hm4
  have hlb := fun A c h1 h2 => linked_any mN nN (by omega) (by omega) (by omega) y hy A c b hb hbl h1 h2 hm5
  have hR' : R = firstO (linkedS x (Way.parts mN nN).reverse a) (linkedS y (Way.parts mN nN).reverse b) := by rw [hR, treesIn_linked _ _ _ _ _ hlab]
  have hna := linkedS_len x (Way.parts mN nN).reverse a (by rw [hTl]; exact hm4)
  have hnb := linkedS_len y (Way.parts mN nN).reverse b (by rw [hTl]; exact hm5)
  have hpl2 := parts_le mN nN
  have hfi := refFirst_calls (linkedS x (Way.parts mN nN).reverse a) (linkedS y (Way.parts mN nN).reverse b) (fun s hs => by rw [linkedS_bound x hx _ a ha s hs]; omega) (fun s hs => by rw [linkedS_bound y hy _ b hb s hs]; omega) (by rw [hna, hTl]; omega) (by rw [hnb, hTl]; omega)
  rw [← hR'] at hfi
  generalize linkedS x (Way.parts mN nN).reverse a = La at *
  generalize linkedS y (Way.parts mN nN).reverse b = Lb at *
  have HLa := Lib.hid hla
  have HLb := Lib.hid hlb
  have HFi := Lib.hid hfi
  clear hpq hR hR' hm4 hm5 hlab hTl hla hlb hna hnb hfi hpl2
  go_wp2_with (refine stop_load 23 (.tmp 15) rfl ?_)
  refine ⟨?_⟩
  refine list_want (by rfl) (fun K hK => ?_)
  refine wp_load_row 23 (.tmp 15) rfl (g5 + 1) (by rfl) 23 _ (0, 0) _ hA Tryd.underlying23 rfl (size32.trans (by simp [hpl])) ?_
  refine hK _ _ ?_; clear hK K
  simp only [Act.put, List.setIfInBounds_toArray, List.set_cons_zero, List.set_cons_succ]
  go_wp2_with (refine stop_load 23 (.tmp 18) rfl ?_)
  refine ⟨?_⟩
  refine list_want (by rfl) (fun K hK => ?_)
  refine wp_load_row 23 (.tmp 18) rfl (g10 + 1) (by rfl) 23 _ (0, 0) _ hB Tryd.underlying23 rfl (size32.trans (by simp [hql])) ?_
  refine hK _ _ ?_; clear hK K
  simp only [Act.put, List.setIfInBounds_toArray, List.set_cons_zero, List.set_cons_succ]
  go_wp2_with fail
  clear z0 z1 f0 f1 hzl
  obtain ⟨Aa', ca', hva, -, -, -, hra⟩ := id hSa1
  obtain ⟨Ab', cb', hvb, -, -, -, hrb⟩ := id hSb1
  injection hva with v1 v2 v3
  injection hvb with v4 v5 v6
  subst v1 v3 v4 v6
  clear v2 v5
  have hras : ∀ z : More v8, Rd (grow v8 z) (grow v8 z).heap.size Aa (flatS a) := fun z => (hra.below (grow_ext z) (Nat.le_refl _)).more (grow_ext z).size
  have hrbs : ∀ z : More v8, Rd (grow v8 z) (grow v8 z).heap.size Ab (flatS b) := fun z => (hrb.below (grow_ext z) (Nat.le_refl _)).more (grow_ext z).size
  clear hra hrb
  refine region_mix 13 (by kernel_rfl) (by kernel_rfl) (fun y0 => ?_); simp only [List.take_succ_cons, List.take_zero, List.drop_succ_cons, List.drop_zero]
  iterate 2 (first | (refine mix_quiet (by rfl) (by rfl) (fun K hK => ?_); go_big_quiet_op; refine hK _ ?_; clear hK K) | (refine mix_skip (by rfl) ?_; simp only [Act.put, List.setIfInBounds_toArray, List.set_cons_zero, List.set_cons_succ]))
  refine mix_row (by rfl) (by rfl) 23 (.tmp 8) rfl w.heap.size (by rfl) 23 _ _ hX Tryd.underlying23 rfl (size32.trans (by simp [hx])) ?_
  simp only [Act.put, List.setIfInBounds_toArray, List.set_cons_zero, List.set_cons_succ]
  iterate 1 (first | (refine mix_quiet (by rfl) (by rfl) (fun K hK => ?_); go_big_quiet_op; refine hK _ ?_; clear hK K) | (refine mix_skip (by rfl) ?_; simp only [Act.put, List.setIfInBounds_toArray, List.set_cons_zero, List.set_cons_succ]))
  (refine mix_loud (by rfl) (by rfl) (fun K E hK => ?_); go_big_op)
  change Calls _ _ #[_, _, sumV x, _] _ _
  refine (HLa.out Aa ca hca hca63 _ (hras _)).mono ?_; rintro e w5 ⟨v5, rfl, hO1, hd⟩
  obtain ⟨x1, rfl⟩ := more_ext _ hd; clear hd
  refine hK _ _ ⟨_, rfl⟩ ?_; clear hK K E
  iterate 2 (first | (refine mix_quiet (by rfl) (by rfl) (fun K hK => ?_); go_big_quiet_op; refine hK _ ?_; clear hK K) | (refine mix_skip (by rfl) ?_; simp only [Act.put, List.setIfInBounds_toArray, List.set_cons_zero, List.set_cons_succ]))
  refine mix_row (by rfl) (by rfl) 23 (.tmp 9) rfl (w.heap.size + 1) (by rfl) 23 _ _ hY Tryd.underlying23 rfl (size32.trans (by simp [hy])) ?_
  simp only [Act.put, List.setIfInBounds_toArray, List.set_cons_zero, List.set_cons_succ]
  iterate 1 (first | (refine mix_quiet (by rfl) (by rfl) (fun K hK => ?_); go_big_quiet_op; refine hK _ ?_; clear hK K) | (refine mix_skip (by rfl) ?_; simp only [Act.put, List.setIfInBounds_toArray, List.set_cons_zero, List.set_cons_succ]))
  (refine mix_loud (by rfl) (by rfl) (fun K E hK => ?_); go_big_op)
  change Calls _ _ #[_, _, sumV y, _] _ _
  refine (HLb.out Ab cb hcb hcb63 _ (hrbs _)).mono ?_; rintro e w6 ⟨v6, rfl, hO2, hd⟩
  replace hO1 := owns_ext hO1 hd
  obtain ⟨x2, rfl⟩ := more_ext _ hd; clear hd
  refine hK _ _ ⟨_, rfl⟩ ?_; clear hK K E
  obtain ⟨A5, c5, rfl, hr5⟩ := ownT_rd hO1
  obtain ⟨A6, c6, rfl, hr6⟩ := ownT_rd hO2
  clear hO1 hO2
  (refine mix_loud (by rfl) (by rfl) (fun K E hK => ?_); go_big_op)
  refine (HFi.out A5 A6 c5 c6 _ hr5 hr6).mono ?_; rintro e w7 ⟨rfl, hd⟩
  obtain ⟨x3, rfl⟩ := more_ext _ hd; clear hd hr5 hr6
  refine hK _ _ ⟨_, rfl⟩ ?_; clear hK K E
  repeat (first | (refine mix_quiet (by rfl) (by rfl) (fun K hK => ?_); go_big_quiet_op; refine hK _ ?_; clear hK K) | (refine mix_skip (by rfl) ?_; simp only [Act.put, List.setIfInBounds_toArray, List.set_cons_zero, List.set_cons_succ]))
  refine mix_nil ?_
  have e9 := grow_ext x3
  clear hras hrbs
  generalize grow v8 x3 = w9 at *
  replace hZ := Blk.below hZ e9 (Blk.lt hZ)
  replace hE := hE.trans e9
  clear e9
  have f0 := Blk.frozen hZ 0
  have f1 := Blk.frozen hZ 1
  have z0 : w9.cell? ⟨w.heap.size + 1 + 1, 0, none⟩ = some (.string (bs [])) := Blk.cell hZ 0
  have z1 : w9.cell? ⟨w.heap.size + 1 + 1, 1, none⟩ = some (.string (bs [])) := Blk.cell hZ 1
  have hzl := Blk.lt hZ
  unfold twC
  obtain ⟨s, hs⟩ : ∃ s, s = (R.getD ([], [])).1 := ⟨_, rfl⟩
  obtain ⟨t, ht⟩ : ∃ t, t = (R.getD ([], [])).2 := ⟨_, rfl⟩
  rw [← hs, ← ht]
  have HS := Lib.hid hs
  have HTT := Lib.hid ht
  clear hs ht
  have hR5 := Blk.set_ (Blk.set_ hZ 0 (.string (bs s))) 1 (.string (bs t))
  go_wp2_with fail
  refine bodyPost_ret (res_cell_t rfl _ _ (w.heap.size + 1 + 1) 57 _ _ rfl hR5 Tryd.underlying57 rfl size_twins) rfl ?_
  exact ⟨by rw [HS.out, HTT.out]; rfl, (hE.setCell (by simp; omega) _).setCell (by simp; omega) _⟩

end Go.Proofs.YtfpipdopgepelaaDoor
