/-
  scriniumlaw02.ShaParts: however a text is cut into parts, its hash is that of the whole; a copy goes its own way. No condition.
-/
import Derived.Test.YtgofnkpegfkonaaDoorFew2
import Derived.Test.YtgofnkpegfkonaaDoorOpS
import Derived.Test.YtgofnkpegfkonaaDoorEqA
import Derived.Test.YtgofnkpegfkonaaDoorShaC
import Derived.Test.YtgofnkpegfkonaaDoorUpd
set_option linter.unusedVariables false
set_option linter.unusedSimpArgs false
namespace Go.Proofs.YtgofnkpegfkonaaDoor.shaParts
open Go.ChangeShapes Go.WideShapes Go.ChangeAt Go.RowKit
attribute [local go_sem] bs_size bs_toList2 bs_append bs_extract_end bs_extract_begin bs_get wrap64_b grow_cell grow_frozen turned_cell

theorem HashOk.upd {w w' : World} {g g' : Nat} {all : List UInt8} (h : HashOk w g all) (hU : Upd g' w w') (hne : g ≠ g') : HashOk w' g all :=
  h.imp (fun h => Blk.grown h hU (by intro e; injection e with e; exact hne e)) (fun h => ⟨h.1, Blk.grown h.2 hU (by intro e; injection e with e; exact hne e)⟩)
def more : List UInt8 := [109, 111, 114, 101]
theorem cMore : (ByteArray.mk #[109, 111, 114, 101]) = bs more := rfl
theorem cNil : (ByteArray.mk #[]) = bs [] := rfl

set_option maxRecDepth 100000 in
set_option maxHeartbeats 2000000 in
theorem walk (B : Nat) (A : Option Addr) (cap : Nat) (l : List (List UInt8)) (at_ : Int) (w : World) (KW : Keys w) (h : Rd w B A (l.map strV)) (hB : B ≤ w.heap.size) (hl : l.length ≤ 9223372036854775807) (he : ∀ s ∈ l, s.length ≤ 9223372036854775807) :
    Calls Tryd.prog 8 #[.slice A l.length cap, .int .i64 at_] w fun e w' => e = .returned (.bool true) ∧ Ext w w' := by
  go_enter Tryd.func8, Tryd.ntmps8
  go_wp2_with fail
  refine (awake_calls _ KW).mono ?_; rintro e w1 ⟨rfl, e1⟩
  go_wp2_with fail
  refine (few02_calls B A cap l _ (h.below e1 hB) (Nat.le_trans hB e1.size) hl he).mono ?_; rintro e w2 ⟨⟨A', c', rfl, hm⟩, e2⟩
  have hml := fewT_length 150 l
  have hme := fewT_each 150 l
  have hjb := joinB_len 150 _ hme
  generalize fewT 150 l = m at *
  have hjb : (joinB m).length ≤ 1800 := by omega
  clear hme hl he h
  replace e2 := e1.trans e2
  clear e1
  go_wp2_with fail
  refine (New_calls _).mono ?_; rintro e w3 ⟨rfl, hN, e3⟩
  have hM := hm.rd.below e3 (Nat.le_refl _)
  have hg0 : w2.heap.size ≠ 0 := by have := (KW.ext e2).lt0; omega
  have hlo := e2.size
  replace e3 := e2.trans e3
  clear hm e2
  generalize w2.heap.size = g at *
  have hgl := hN.lt
  go_wp2_with fail
  refine (Copy_calls [] g _ (.inr ⟨rfl, hN⟩)).mono ?_; rintro e w4 ⟨rfl, hC, e4⟩
  have hM4 := hM.below e4 (by omega)
  have hH4 : HashOk w4 g [] := HashOk.ext (.inr ⟨rfl, hN⟩) e4
  replace e4 := e3.trans e4
  clear hM hN e3
  generalize w3.heap.size = gc0 at *
  clear w3
  go_wp2_with fail
  simp only [cNil]
  go_loopw [8, 9, 10, 11] (fun s8 s9 s10 s11 wr => ∃ (k gc : Nat) (hadb : List UInt8), k ≤ m.length ∧ s11 = .int .i64 (k : Int) ∧ s8 = .string (bs (joinB (m.take k))) ∧ s9 = .pointer (some ⟨gc, 0, none⟩) ∧ s10 = .string (bs hadb) ∧ hadb.length ≤ 1800 ∧ HashOk wr g (joinB (m.take k)) ∧ HashOk wr gc hadb ∧ g < gc ∧ Rd wr g A' (m.map strV) ∧ Ext w wr) (fun _ _ _ s11 _ => m.length - (intOf s11).toNat)
  case atStart => exact ⟨0, gc0, [], by omega, rfl, rfl, rfl, rfl, by simp, hH4, hC, hgl, hM4, e4⟩
  case round =>
    clear hM4 hH4 hC e4 hgl
    clear w4
    obtain ⟨k, gc, hadb, hk, rfl, rfl, rfl, rfl, hhl, hH, hC, hgc, hM, hE⟩ := hrel
    have hjk := joinB_le m k
    by_cases hlt : k < m.length
    · have hit : (k : Int) < (m.length : Int) := by omega
      obtain ⟨b, off, rfl, hbB, hcs⟩ := hM (map_ne strV hlt)
      have hcell : wr.cell? ⟨b, off + k, none⟩ = some (.string (bs m[k])) := hcs k _ (by rw [List.getElem?_map, List.getElem?_eq_getElem hlt]; rfl)
      have hbg : ¬ b = g := by omega
      have hHl := hH.lt
      have hbl : b < wr.heap.size := by omega
      have hjt := joinB_take m k hlt
      have hj1 := joinB_le m (k + 1)
      rw [hjt] at hj1
      generalize m[k] = s at *
      generalize joinB (m.take k) = all at *
      have hasl : (all ++ s).length ≤ 1800 := by omega
      have hsl : s.length ≤ 1800 := by simp at hasl; omega
      have hal : all.length ≤ 1800 := by simp at hasl; omega
      have hasl2 : all.length + s.length ≤ 1800 := by simpa using hasl
      have Hjt := Lib.hid hjt
      clear hjt hj1 hcs hjk
      go_wp2_with fail
      refine region_upd0 g (by kernel_rfl) (by kernel_rfl) ?_
      repeat (first | (refine mix_quiet (by rfl) (by rfl) (fun K hK => ?_); go_big_quiet_op; refine hK _ ?_; clear hK K) | (refine mix_skip (by rfl) ?_; simp only [Act.put, List.setIfInBounds_toArray, List.set_cons_zero, List.set_cons_succ]))
      (refine mix_loud (by rfl) (by rfl) (fun K E hK => ?_); go_big_op)
      refine (Write_calls s all g _ (KW.ext hE.drew) (hH.ext ((Ext.refl _).drew)) hg0 (by omega)).mono ?_; rintro e w5 ⟨rfl, hH5, hU⟩
      obtain ⟨x5, rfl⟩ := turned_of ((Upd.refl g wr).drew.trans hU)
      refine hK _ _ ⟨_, rfl⟩ ?_; clear hK K E
      repeat (first | (refine mix_quiet (by rfl) (by rfl) (fun K hK => ?_); go_big_quiet_op; refine hK _ ?_; clear hK K) | (refine mix_skip (by rfl) ?_; simp only [Act.put, List.setIfInBounds_toArray, List.set_cons_zero, List.set_cons_succ]))
      refine mix_nil ?_
      have hgT : (turned g wr x5).heap.size ≥ wr.heap.size := (turned_upd x5).size
      have hE5 : Ext w (turned g wr x5) := hE.upd (turned_upd x5) hlo
      have hC5 : HashOk (turned g wr x5) gc hadb := HashOk.upd hC (turned_upd x5) (by omega)
      have hM5 : Rd (turned g wr x5) g (some ⟨b, off, none⟩) (m.map strV) := hM.grown (turned_upd x5) (by omega) (fun i e => by injection e with e; omega)
      clear hH hU hC hM hE
      have heq := fun w : World => eq_sum (shaOf (all ++ s)) (shaOf (all ++ s)) (shaOf_length _) (shaOf_length _) w
      have hgw := guard_sum
      go_wp2_with fail
      refine (Sum_calls (all ++ s) g _ (KW.ext hE5) (.inl hH5) (by omega)).mono ?_; rintro e w6 ⟨rfl, e6⟩
      have hj : joinB [all ++ s] = all ++ s := by simp [joinB]
      have hRd : Rd (w6.alloc (.cells #[.string (bs (all ++ s))] 9)) (w6.alloc (.cells #[.string (bs (all ++ s))] 9)).heap.size (some ⟨w6.heap.size, 0, none⟩) ([all ++ s].map strV) := Blk.rd (Blk.new w6 _ _)
      unfold sumV
      go_wp2_with fail
      refine (Of_calls [all ++ s] _ 1 _ (KW.ext ((hE5.trans e6).alloc _)) hRd (by simp) (by rw [hj]; omega)).mono ?_; rw [hj]; rintro e w7 ⟨rfl, e7⟩
      unfold sumV
      have hX : Ext (turned g wr x5) w7 := (e6.alloc _).trans e7
      have hE7 := hE5.trans hX
      have hH7 := HashOk.ext (.inl hH5) hX
      have hC7 := HashOk.ext hC5 hX
      have hM7 := hM5.below hX (by omega)
      clear e6 e7 hX hRd hj hE5 hH5 hC5 hM5
      go_wp2_with fail
      refine (Len_calls (all ++ s) g _ hH7).mono ?_; rintro e w8 ⟨rfl, rfl⟩
      by_cases hat : (k : Int) = at_
      · have hb : ((k : Int) == at_) = true := by simpa using hat
        clear hat
        go_wp2_with fail
        refine (Copy_calls (all ++ s) g _ hH7).mono ?_; rintro e w8 ⟨rfl, hC8, e8⟩
        have hgl8 : g < w7.heap.size := hH7.lt
        go_wp2_with fail
        go_roundw
        case rel => exact ⟨k + 1, w7.heap.size, all ++ s, by omega, by go_num, by rw [Hjt.out], rfl, rfl, by omega, by rw [Hjt.out]; exact hH7.ext e8, hC8, hgl8, hM7.below e8 (by omega), hE7.trans e8⟩
        case measure => simp [intOf]; omega
      · have hb : ((k : Int) == at_) = false := by simpa using hat
        clear hat
        go_wp2_with fail
        go_roundw
        case rel => exact ⟨k + 1, gc, hadb, by omega, by go_num, by rw [Hjt.out], rfl, rfl, hhl, by rw [Hjt.out]; exact hH7, hC7, hgc, hM7, hE7⟩
        case measure => simp [intOf]; omega
    · obtain rfl : k = m.length := by omega
      rw [List.take_length] at *
      generalize hall : joinB m = all at *
      have Hall := Lib.hid hall; clear hall
      have hgc0 : gc ≠ 0 := by omega
      have hmm : more.length = 4 := rfl
      have hgl := hH.lt
      go_wp2_with fail
      rw [cMore]
      refine (Write_calls more hadb gc _ (KW.ext hE) hC hgc0 (by omega)).mono ?_; rintro e w5 ⟨rfl, hC5, hU⟩
      have hE5 : Ext w w5 := hE.upd hU (by omega)
      have hH5 : HashOk w5 g all := HashOk.upd hH hU (by omega)
      have hM5 : Rd w5 g A' (m.map strV) := hM.grown hU (by omega) (fun i e => by injection e with e; omega)
      have hcm : (hadb ++ more).length ≤ 1804 := by simp; omega
      have hgl5 := hH5.lt
      clear hH hC hM hE hU
      have hgw := guard_sum
      have heq1 := fun w : World => eq_sum (shaOf all) (shaOf all) (shaOf_length _) (shaOf_length _) w
      have heq2 := fun w : World => eq_sum (shaOf (hadb ++ more)) (shaOf (hadb ++ more)) (shaOf_length _) (shaOf_length _) w
      go_wp2_with fail
      refine (Of_calls m A' c' _ (KW.ext hE5) (hM5.more (by omega)) (by omega) (by rw [Hall.out]; omega)).mono ?_; rw [Hall.out]; rintro e w6 ⟨rfl, e6⟩
      have hRd : Rd (w6.alloc (.cells #[.string (bs all)] 9)) (w6.alloc (.cells #[.string (bs all)] 9)).heap.size (some ⟨w6.heap.size, 0, none⟩) ([all].map strV) := Blk.rd (Blk.new w6 _ _)
      have hj : joinB [all] = all := by simp [joinB]
      unfold sumV
      go_wp2_with fail
      refine (Of_calls [all] _ 1 _ (KW.ext ((hE5.trans e6).alloc _)) hRd (by simp) (by rw [hj]; omega)).mono ?_; rw [hj]; rintro e w7 ⟨rfl, e7⟩
      have hX : Ext w5 w7 := (e6.alloc _).trans e7
      clear e6 e7 hRd
      unfold sumV
      go_wp2_with fail
      refine (Sum_calls (hadb ++ more) gc _ (KW.ext (hE5.trans hX)) (HashOk.ext (.inl hC5) hX) (by omega)).mono ?_; rintro e w8 ⟨rfl, e8⟩
      have hRd : Rd (w8.alloc (.cells #[.string (bs hadb), .string (bs more)] 9)) (w8.alloc (.cells #[.string (bs hadb), .string (bs more)] 9)).heap.size (some ⟨w8.heap.size, 0, none⟩) ([hadb, more].map strV) := Blk.rd (Blk.new w8 _ _)
      have hj2 : joinB [hadb, more] = hadb ++ more := by simp [joinB]
      unfold sumV
      go_wp2_with fail
      rw [cMore]
      refine (Of_calls [hadb, more] _ 2 _ (KW.ext (((hE5.trans hX).trans e8).alloc _)) hRd (by simp) (by rw [hj2]; omega)).mono ?_; rw [hj2]; rintro e w9 ⟨rfl, e9⟩
      replace hX := hX.trans ((e8.alloc _).trans e9)
      clear e8 e9 hRd
      unfold sumV
      go_wp2_with fail
      refine (Sum_calls all g _ (KW.ext (hE5.trans hX)) (HashOk.ext hH5 hX) (by omega)).mono ?_; rintro e w10 ⟨rfl, e10⟩
      have hRd : Rd (w10.alloc (.cells #[.string (bs all)] 9)) (w10.alloc (.cells #[.string (bs all)] 9)).heap.size (some ⟨w10.heap.size, 0, none⟩) ([all].map strV) := Blk.rd (Blk.new w10 _ _)
      unfold sumV
      go_wp2_with fail
      refine (Of_calls [all] _ 1 _ (KW.ext (((hE5.trans hX).trans e10).alloc _)) hRd (by simp) (by rw [hj]; omega)).mono ?_; rw [hj]; rintro e w11 ⟨rfl, e11⟩
      unfold sumV
      go_wp2_with fail
      go_ret
      exact ⟨rfl, (((hE5.trans hX).trans e10).alloc _).trans e11⟩

set_option maxRecDepth 100000 in
theorem contract (H : Type) (enc : TypeId × Value → H) (W : World) (base : Nat) (args : Array Value) (ds gs : List (DataW H)) (before : List MemPlace)
    (hval0 : ∀ (j : Nat) t v, Tryd.f8.params[j]? = some t → args[j]? = some v → Value.okWide Tryd.prog W .any base t v)
    (hW : DataW.Whole enc Tryd.prog Tryd.f8.params.toList Rows.shaPartsSpec.vars false W args.toList ds gs before) (hL : laidMetH Tryd.prog Rows.shaPartsRow.laid W) :
    Calls Tryd.prog 8 args W fun e W' => ∃ v, e = .returned v ∧ Rows.shaPartsSpec.post enc Tryd.prog Tryd.f8 false true false false W args v W' := by
  have K : Keys W := keys_of hL
  have hval : ∀ (j : Nat) t v, Tryd.f8.params[j]? = some t → args[j]? = some v → Value.okWide Tryd.prog W .any base t v := hval0
  have hW' := hW
  obtain ⟨p, q, hA0, hV, rfl, hfz, hnd⟩ := hW
  have hA : DataW.TrodAll enc Tryd.prog W 0 (fun _ => true) true Tryd.f8.params.toList args.toList ds p := hA0
  rw [Tryd.params8] at hA hval
  obtain ⟨v0, vs0, d0, ds0, p0, q0, hargs, rfl, rfl, hx0, r0⟩ := trodAll_cons hA
  obtain ⟨v1, vs1, d1, ds1, p1, q1, rfl, rfl, rfl, hx1, r1⟩ := trodAll_cons r0
  obtain ⟨rfl, rfl, rfl⟩ := trodAll_nil r1
  obtain rfl : args = #[v0, v1] := by cases args; simp_all
  obtain ⟨rfl, rfl⟩ := trodVars_none hV
  obtain ⟨Al, cl, l, rfl, hlr, hlc, hlm, hle⟩ := op_strs (hval 0 43 v0 rfl rfl) (tr_of hx0)
  obtain ⟨at_, rfl, hat_0, hat_1⟩ := op_int (hval 1 3 v1 rfl rfl) (tr_of hx1)
  refine (walk W.heap.size Al cl l at_ W K hlr (Nat.le_refl _) (by omega) hle).mono fun e W' ⟨he, hg⟩ => ?_
  subst he
  exact ⟨_, rfl, law_post hW' rfl rfl (by kernel_rfl) rfl rfl rfl hg⟩

theorem laid_met (os : Os) : laidMet Tryd.prog Rows.shaPartsRow.laid ((keysWorld os).forCall (fun _ _ => 0) ⟨#[], #[.slice none 0 0, .int .i64 0], []⟩).memory :=
  laidMet_of_run' 8 (by kernel_rfl) (by kernel_rfl)
theorem reads (os : Os) {H : Type} (enc : TypeId × Value → H) : ∃ x, DataW.whole enc Tryd.prog ((keysWorld os).forCall (fun _ _ => 0) ⟨#[], #[.slice none 0 0, .int .i64 0], []⟩).memory Tryd.f8.params.toList Rows.shaPartsSpec.vars false (#[.slice none 0 0, .int .i64 0] : Array Value).toList 8 = some x :=
  Option.isSome_iff_exists.1 (by kernel_rfl)
set_option maxRecDepth 100000 in
theorem lifted (os : Os) (started : os.Started) (H : Type) (enc : TypeId × Value → H) (F : Stop.Interp) :
    ReturnsInHanded {} Tryd.checked os 8 .any ((OpenSpec.ofChange Rows.shaPartsSpec).preRow enc Tryd.prog Tryd.f8 Rows.shaPartsRow.domain false Rows.shaPartsRow.laid) (((OpenSpec.ofChange Rows.shaPartsSpec).at F).post enc Tryd.prog Tryd.f8 false true false false) := by
  obtain ⟨x, hx⟩ := reads os enc
  refine returnsInHanded_of_row (C := Tryd.checked) (s := OpenSpec.ofChange Rows.shaPartsSpec) own_ started (by kernel_rfl) Tryd.func8
    (witness_row_at (enc := enc) (C := Tryd.checked) false (keysWorld os) #[.slice none 0 0, .int .i64 0] rfl (by kernel_rfl) (by kernel_rfl) (by kernel_rfl)
      (OpenSpec.preRow_of_cond 8 hx rfl (fun k hk => by cases hk) (by kernel_rfl) (laid_met os))) ?_
  intro W base args ds gs before hval hW _ _ _ hL _ _
  exact contract H enc W base args ds gs before hval hW hL

theorem said : Rows.ShaPartsSaid :=
  OpenClaim.holds_of_cond 8 Tryd.f8 rfl rfl rfl rfl rfl rfl rfl ⟨rfl, rfl, rfl, rfl, rfl⟩ rfl rfl rfl rfl rfl (by kernel_rfl) Tryd.func8 (by kernel_rfl)
    (of_decide_eq_true (by kernel_rfl)) (by unfold Func.isWrapper; first | (rw [if_pos (by decide +kernel)]; kernel_rfl) | (rw [if_neg (by decide +kernel)]; exact ⟨rfl, rfl⟩))
    (fun os started H enc _ F => by rw [OpenClaim.pre_eq_preRow]; exact lifted os started H enc F)
theorem plain (f : FuncId) (fn : Func) (hf : Tryd.pinned.checked.prog.funcNamed "scrinium/scriniumlaw02.ShaParts" = some f) (hfn : Tryd.pinned.checked.prog.funcs[f]? = some fn) :
    false = Tryd.pinned.checked.prog.looks [] ∧ ∀ (j : Nat) t, fn.params[j]? = some t → Tryd.pinned.checked.prog.wantsStandIn t = false := by
  obtain rfl : f = 8 := Option.some.inj ((show Tryd.prog.funcNamed "scrinium/scriniumlaw02.ShaParts" = some 8 by kernel_rfl).symm.trans hf) |>.symm
  obtain rfl : fn = Tryd.f8 := (Option.some.inj (Tryd.func8.symm.trans hfn)).symm
  refine ⟨by kernel_rfl, fun j t ht => ?_⟩
  rw [Tryd.params8] at ht
  have hm : t ∈ ([43, 3] : List TypeId) := by simpa using Array.mem_of_getElem? ht
  have hall : (([43, 3] : List TypeId).all fun u => !Tryd.prog.wantsStandIn u) = true := by kernel_rfl
  exact (show Tryd.prog.wantsStandIn t = false by simpa using List.all_eq_true.1 hall t hm)
theorem proved : Rows.ShaPartsCardSaid :=
  Claim7.holds_tied_plain_at .later [] _ _ _ _ said (fun _ h => by cases h) (by kernel_rfl) (fun _ h => by cases h) shaParts_row_tie rfl ⟨rfl, rfl⟩ (by kernel_rfl) rfl plain (by kernel_rfl)

end Go.Proofs.YtgofnkpegfkonaaDoor.shaParts
