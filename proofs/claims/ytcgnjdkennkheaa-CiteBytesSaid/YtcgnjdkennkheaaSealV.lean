/-
  Reading of layer 16: the document's begin, hash, ReadFreeze, ReadHead, ReadStone.
-/
import Derived.Test.YtcgnjdkennkheaaSealNM
import Derived.Test.YtcgnjdkennkheaaRef1
set_option linter.unusedVariables false
set_option maxRecDepth 100000
set_option linter.unusedSimpArgs false
namespace Go.Proofs.Ytcgnjdkennkheaa
open Go.RowKit
open Seal (Fz Hd St)
attribute [local go_sem] bs_size bs_toList2 bs_append bs_extract_end bs_extract_begin bs_get wrap64_b

theorem RfAt.rowF {w : World} {g k : Nat} {s : List UInt8} {x : Oct.Sc} (h : RfAt w g s x) (hne : g ≠ k) (cs : Array Value) : RfAt (w.setRow k cs) g s x := by
  obtain ⟨m, h1, h2, h3⟩ := h
  exact ⟨m, h1, Blk.rowFar h2 hne cs, h3⟩
theorem RfAt.farC {w : World} {g k : Nat} {s : List UInt8} {x : Oct.Sc} (h : RfAt w g s x) (hne : g ≠ k) (o : Nat) (v : Value) : RfAt (w.setCell ⟨k, o, none⟩ v) g s x := by
  obtain ⟨m, h1, h2, h3⟩ := h
  exact ⟨m, h1, Blk.far h2 (p := ⟨k, o, none⟩) hne v, h3⟩
theorem RfAt.farCs {w : World} {g k : Nat} {s : List UInt8} {x : Oct.Sc} (h : RfAt w g s x) (hne : g ≠ k) (vs : List Value) (o : Nat) : RfAt (w.setCells k o vs) g s x := by
  obtain ⟨m, h1, h2, h3⟩ := h
  exact ⟨m, h1, Blk.farCells hne vs o w h2, h3⟩
theorem RfAt.drew' {w : World} {g : Nat} {s : List UInt8} {x : Oct.Sc} (h : RfAt w g s x) : RfAt w.drew g s x := h
set_option maxHeartbeats 1000000 in
theorem begin_calls (s : List UInt8) (c : UInt8) (w : World) (hs : s.length ≤ 1099511627776) :
    Calls Try.prog 62 #[.string (bs s), .string (bs [c])] w fun e w' => ∃ (g : Nat) (s' : List UInt8), e = .returned (.pointer (some ⟨g, 0, none⟩)) ∧ w.heap.size ≤ g ∧ RfAt w' g s' (Seal.begin_ s c) ∧ s'.length ≤ s.length ∧ Ext w w' := by
  rcases s with _ | ⟨d, r⟩
  · go_enter Try.func62, Try.ntmps62
    go_wp2_with fail
    go_ret
    exact ⟨w.heap.size, [], rfl, Nat.le_refl _, ⟨0, Nat.le_refl _, Blk.new w _ _, fun h => by cases h⟩, Nat.le_refl _, (Ext.refl w).alloc _⟩
  · have hx : (bs (d :: r)).extract 1 (r.length + 1) = bs r := by
      have := bs_extract_end (d :: r) 1
      simpa using this
    have hx0 : (bs (d :: r)).extract 0 1 = bs [d] := by
      have := bs_extract_begin (d :: r) 1
      simpa using this
    have hrl : r.length ≤ 1099511627776 := by simp at hs; omega
    by_cases hdc : d = c
    · subst hdc
      have hb : Seal.begin_ (d :: r) d = ⟨r, false⟩ := if_pos rfl
      have hbb : ([d] == [d]) = true := by simp
      rw [hb]
      clear hb
      go_enter Try.func62, Try.ntmps62
      go_wp2_with fail
      go_ret
      refine ⟨w.heap.size, r, rfl, Nat.le_refl _, ⟨0, Nat.zero_le _, ?_, fun _ => rfl⟩, by simp, (Ext.refl w).alloc _⟩
      have := Blk.new w 65 #[.string (bs r), .int .i64 0, .bool false]
      simpa [hx] using this
    · have hb : Seal.begin_ (d :: r) c = ⟨[], true⟩ := if_neg hdc
      have hbb : ([d] == [c]) = false := by simp [hdc]
      rw [hb]
      clear hb
      go_enter Try.func62, Try.ntmps62
      go_wp2_with fail
      go_ret
      exact ⟨w.heap.size, [], rfl, Nat.le_refl _, ⟨0, Nat.le_refl _, Blk.new w _ _, fun h => by cases h⟩, by simp, (Ext.refl w).alloc _⟩

set_option maxHeartbeats 2000000 in
theorem rfHash_calls (g : Nat) (s : List UInt8) (x : Oct.Sc) (w : World) (h : RfAt w g s x) (hl : s.length ≤ 1099511627776) :
    Calls Try.prog 63 #[.pointer (some ⟨g, 0, none⟩)] w fun e w' => e = .returned (sumV (Seal.hashR x).1) ∧ RfAt w' g s (Seal.hashR x).2 ∧ Upd g w w' := by
  have hR : ArrB (w.alloc (.cells ((zerosB 32).map byteV).toArray 23)) w.heap.size 23 (zerosB 32) := by
    have := Blk.new w 23 ((zerosB 32).map byteV).toArray
    exact this
  have hE0 : Ext w (w.alloc (.cells ((zerosB 32).map byteV).toArray 23)) := (Ext.refl w).alloc _
  have hS := h.ext hE0
  have hgl : g < w.heap.size := h.lt
  have hU : Upd g w (w.alloc (.cells ((zerosB 32).map byteV).toArray 23)) := Upd.of_ext hE0
  have HT := fun w hw => rfText_calls g s x 32 w hw hl (by omega) (by omega)
  have ht := text_atmost x 32 (by omega)
  unfold Seal.hashR
  generalize x.text 32 = p at *
  obtain ⟨t, x'⟩ := p
  simp only at ht HT ⊢
  have H1 := Lib.hid HT; clear HT
  by_cases h32 : t.length = 32
  · rw [if_pos h32]
    have hI : (t.length : Int) = 32 := by omega
    have h32b : ((t.length : Int) != 32) = false := by rw [hI]; rfl
    have H32 := Lib.hid h32; have HI := Lib.hid hI; have Ht := Lib.hid ht
    clear h32 hI ht
    go_enter Try.func63, Try.ntmps63
    go_wp2_with fail
    change Calls _ _ _ (w.alloc (.cells ((zerosB 32).map byteV).toArray 23)) _
    have hRl : w.heap.size < (w.alloc (.cells ((zerosB 32).map byteV).toArray 23)).heap.size := Blk.lt hR
    generalize (w.alloc (.cells ((zerosB 32).map byteV).toArray 23)) = w0 at *
    refine (H1.out _ hS).mono ?_; rintro e w1 ⟨rfl, hS1, hU1⟩
    have hU2 := hU.trans hU1
    have hR1 : ArrB w1 w.heap.size 23 (zerosB 32) := Blk.grown hR hU1 (by simp; omega)
    have hs1 := hU1.size
    have hN0 : ArrB (w1.alloc (.cells ((zerosB 32).map byteV).toArray 23)) w1.heap.size 23 (fillB t 0) := by
      rw [fillB_zero, H32.out]
      exact Blk.new _ _ _
    have hR2 : ArrB (w1.alloc (.cells ((zerosB 32).map byteV).toArray 23)) w.heap.size 23 (zerosB 32) := Blk.alloc hR1 _
    have hS2 := hS1.alloc (.cells ((zerosB 32).map byteV).toArray 23)
    have hU3 := hU2.alloc (.cells ((zerosB 32).map byteV).toArray 23)
    have hgs := hS1.lt
    clear hS1 hU2 hR1 hU1 hU hS hR hE0
    go_wp2_with fail
    go_loopw [5] (fun v wr => ∃ i : Nat, i ≤ 32 ∧ v = .int .i64 (i : Int) ∧ ArrB wr w1.heap.size 23 (fillB t i) ∧ ArrB wr w.heap.size 23 (zerosB 32) ∧ RfAt wr g s x' ∧ Upd g w wr) (fun v _ => 32 - (intOf v).toNat)
    case atStart => exact ⟨0, by omega, rfl, hN0, hR2, hS2, hU3⟩
    case round =>
      clear hN0 hR2 hS2 hU3
      obtain ⟨i, hi, rfl, hN, hR, hS, hU⟩ := hrel
      by_cases hlt : i < 32
      · have hit : (i : Int) < 32 := by omega
        have hil : i < t.length := by rw [H32.out]; exact hlt
        have hfl := fillB_length t i (by rw [H32.out]; omega)
        have hfr := Blk.frozen hN i
        obtain ⟨u0, hc0⟩ := Blk.some_ hN i (by simp; rw [hfl, H32.out]; exact hlt)
        have hgl2 := Blk.lt hN
        have hfs := fillB_succ t i hil
        have Hfs := Lib.hid hfs; have Hfl := Lib.hid hfl
        clear hfs hfl
        go_wp2_with fail
        go_roundw
        case rel =>
          refine ⟨i + 1, by omega, by go_num, ?_, Blk.far hR (p := ⟨w1.heap.size, i, none⟩) (by show w.heap.size ≠ w1.heap.size; omega) _, hS.farC (by omega) i _, hU.setCell (p := ⟨w1.heap.size, i, none⟩) (.inr (by show w.heap.size ≤ w1.heap.size; omega)) _⟩
          rw [Hfs.out]
          exact ArrB.set hN i _
        case measure => simp [intOf]; omega
      · obtain rfl : i = 32 := by omega
        rw [show fillB t 32 = t from by have := fillB_all t; rwa [H32.out] at this] at hN
        have hz := H32.out
        go_wp2_with (refine stop_load 23 (.tmp 4) rfl ?_)
        refine ⟨?_⟩
        refine wpList_load_row rfl 23 (.tmp 4) rfl w1.heap.size (by rfl) 23 _ (0, 0) _ hN Try.underlying23 rfl (size32.trans (by simp [hz])) ?_
        simp only [Act.put, List.setIfInBounds_toArray, List.set_cons_zero, List.set_cons_succ]
        go_wp2_with (refine stop_store 23 (.tmp 2) (.tmp 24) rfl ?_)
        refine ⟨?_⟩
        refine wpList_store_row rfl 23 (.tmp 2) (.tmp 24) rfl w.heap.size (t.map byteV).toArray (by rfl) (by rfl) 23 _ hR (size32.trans (by simp [hz])) (by simp [hz, zerosB]) (by simp [byteV, Value.oneCell']) ?_
        simp only [Act.put, List.setIfInBounds_toArray, List.set_cons_zero, List.set_cons_succ]
        go_wp2_with fail
        (try simp only [Exit.inBlock, Exit.then])
        exact bodyPost_ret (results_cell_row rfl _ _ w.heap.size 23 _ (0, 0) _ rfl (Blk.row hR (t.map byteV).toArray) Try.underlying23 rfl (size32.trans (by simp [hz]))) rfl ⟨rfl, hS.rowF (by omega) _, hU.rowNew (by omega) _⟩
  · rw [if_neg h32]
    have h32b : ((t.length : Int) != 32) = true := by rw [bne_iff_ne]; omega
    have H32 := Lib.hid h32; have Ht := Lib.hid ht
    clear h32 ht
    go_enter Try.func63, Try.ntmps63
    go_wp2_with fail
    change Calls _ _ _ (w.alloc (.cells ((zerosB 32).map byteV).toArray 23)) _
    have hRl : w.heap.size < (w.alloc (.cells ((zerosB 32).map byteV).toArray 23)).heap.size := Blk.lt hR
    generalize (w.alloc (.cells ((zerosB 32).map byteV).toArray 23)) = w0 at *
    refine (H1.out _ hS).mono ?_; rintro e w1 ⟨rfl, hS1, hU1⟩
    have hU2 := hU.trans hU1
    have hR1 : ArrB w1 w.heap.size 23 (zerosB 32) := Blk.grown hR hU1 (by simp; omega)
    have hs1 := hU1.size
    have hgs := hS1.lt
    obtain ⟨m0, hm0, hB0, hx0⟩ := id hS1
    have f20 := Blk.frozen hB0 2
    have c20 : w1.cell? ⟨g, 2, none⟩ = some (.bool x'.spoil) := Blk.cell hB0 2
    clear hB0 hm0 hx0
    have hSb : RfAt (w1.setCell ⟨g, 2, none⟩ (.bool true)) g s x'.bad := RfAt.bad hS1
    have hRb : ArrB (w1.setCell ⟨g, 2, none⟩ (.bool true)) w.heap.size 23 (zerosB 32) := Blk.far hR1 (p := ⟨g, 2, none⟩) (by show w.heap.size ≠ g; omega) _
    have hUb : Upd g w (w1.setCell ⟨g, 2, none⟩ (.bool true)) := hU2.setCell (.inl rfl) _
    have hsz : (w1.setCell ⟨g, 2, none⟩ (.bool true)).heap.size = w1.heap.size := by simp [World.setCell]
    have hS4 := hSb.alloc (.cells ((zerosB 32).map byteV).toArray 23)
    have hR4 : ArrB ((w1.setCell ⟨g, 2, none⟩ (.bool true)).alloc (.cells ((zerosB 32).map byteV).toArray 23)) w.heap.size 23 (zerosB 32) := Blk.alloc hRb _
    have hN4 : ArrB ((w1.setCell ⟨g, 2, none⟩ (.bool true)).alloc (.cells ((zerosB 32).map byteV).toArray 23)) w1.heap.size 23 (zerosB 32) := by
      have := Blk.new (w1.setCell ⟨g, 2, none⟩ (.bool true)) 23 ((zerosB 32).map byteV).toArray
      rw [hsz] at this
      exact this
    have hU4 := hUb.alloc (.cells ((zerosB 32).map byteV).toArray 23)
    clear hSb hRb hUb hS1 hU2 hR1 hU1 hU hS hR hE0 hsz
    go_wp2_with (refine stop_load 23 (.tmp 4) rfl ?_)
    refine ⟨?_⟩
    change wpList _ _ _ _ _ ((w1.setCell ⟨g, 2, none⟩ (.bool true)).alloc (.cells ((zerosB 32).map byteV).toArray 23))
    generalize (w1.setCell ⟨g, 2, none⟩ (.bool true)).alloc (.cells ((zerosB 32).map byteV).toArray 23) = w4 at *
    refine wpList_load_row rfl 23 (.tmp 4) rfl w1.heap.size (by rfl) 23 _ (0, 0) _ hN4 Try.underlying23 rfl (size32.trans (by simp [zerosB])) ?_
    simp only [Act.put, List.setIfInBounds_toArray, List.set_cons_zero, List.set_cons_succ]
    go_wp2_with (refine stop_store 23 (.tmp 2) (.tmp 14) rfl ?_)
    refine ⟨?_⟩
    refine wpList_store_row rfl 23 (.tmp 2) (.tmp 14) rfl w.heap.size ((zerosB 32).map byteV).toArray (by rfl) (by rfl) 23 _ hR4 (size32.trans (by simp [zerosB])) (by simp [zerosB]) (by simp [byteV, Value.oneCell']) ?_
    simp only [Act.put, List.setIfInBounds_toArray, List.set_cons_zero, List.set_cons_succ]
    go_wp2_with fail
    (try simp only [Exit.inBlock, Exit.then])
    exact bodyPost_ret (results_cell_row rfl _ _ w.heap.size 23 _ (0, 0) _ rfl (Blk.row hR4 ((zerosB 32).map byteV).toArray) Try.underlying23 rfl (size32.trans (by simp [zerosB]))) rfl ⟨rfl, hS4.rowF (by omega) _, hU4.rowNew (by omega) _⟩


set_option maxHeartbeats 4000000 in
theorem refReadFreeze_calls (s : List UInt8) (hs : s.length ≤ 1099511627776) (w : World) :
    Calls Try.prog 35 #[.string (bs s)] w fun e w' => e = .returned (.tuple #[((Seal.Fz.read s).getD Seal.zF).v, .int .i64 (Seal.errOf (Seal.Fz.read s))]) ∧ Ext w w' := by
  have hR : FzAt (w.alloc (.cells Seal.zF.cells.toArray 25)) w.heap.size Seal.zF := by
    have := Blk.new w 25 Seal.zF.cells.toArray
    exact this
  have hE : Ext w (w.alloc (.cells Seal.zF.cells.toArray 25)) := (Ext.refl w).alloc _
  have hread := Seal.Fz.readR_eq s
  rw [← hread]
  unfold Seal.Fz.readR
  simp only
  have HN1 := fun w g s' hw (hs' : s'.length ≤ 1099511627776) => rfNum_calls g s' (Seal.begin_ s 70) 1125899906842624 w hw hs' (by omega) (by omega)
  have HN2 := fun w g s' hw (hs' : s'.length ≤ 1099511627776) => rfNum_calls g s' ((Seal.begin_ s 70).num 1125899906842624).2 4000 w hw hs' (by omega) (by omega)
  have HN3 := fun w g s' hw (hs' : s'.length ≤ 1099511627776) => rfHash_calls g s' (((Seal.begin_ s 70).num 1125899906842624).2.num 4000).2 w hw hs'
  generalize (Seal.begin_ s 70).num 1125899906842624 = a at *
  generalize a.2.num 4000 = b at *
  have hz32 : (Seal.hashR b.2).1.length = 32 := by
    unfold Seal.hashR
    split
    · assumption
    · simp
  generalize Seal.hashR b.2 = c at *
  obtain ⟨v, hv⟩ : ∃ v : Fz, v = ⟨a.1, b.1, c.1⟩ := ⟨_, rfl⟩
  rw [← hv]
  have vr : v.root.length = 32 := by rw [hv]; exact hz32
  have hbu := built_fz1 a.1
  have H1 := Lib.hid HN1; have H2 := Lib.hid HN2; have H3 := Lib.hid HN3; have Hv := Lib.hid hv
  clear HN1 HN2 HN3 hread hv
  by_cases he0 : c.2.endE = 0
  · have he := he0
    by_cases hm : v.may
    · have hres : (if c.2.endE = 0 ∧ v.may then some v else none) = some v := if_pos ⟨he0, hm⟩
      rw [hres]
      simp only [Option.getD_some, show Seal.errOf (some v) = 0 from rfl]
      clear hres he0
      unfold Seal.Fz.v
      go_enter Try.func35, Try.ntmps35
      go_wp2_with fail
      change Calls _ _ _ (w.alloc (.cells Seal.zF.cells.toArray 25)) _
      generalize (w.alloc (.cells Seal.zF.cells.toArray 25)) = w0 at *
      refine (begin_calls s 70 _ hs).mono ?_; rintro e w1 ⟨g, s', rfl, hgB, hS, hs', e1⟩
      have hRl := hR.lt
      replace hR := hR.ext e1
      have hEB := hE.trans e1
      have hU : Upd g w1 w1 := Upd.refl _ _
      have hgl := hS.lt
      have hgw : w.heap.size < g := by omega
      clear e1 hE
      go_wp2_with fail
      refine (H1.out _ g s' hS (by omega)).mono ?_; rintro e v1 ⟨rfl, hS', hU'⟩
      replace hS := hS'
      replace hR := hR.upd hU' (by omega)
      have sz1 := hU'.size
      replace hU := hU.trans hU'
      clear hS' hU'
      go_wp2_with (refine stop_at 12 rfl ?_)
      refine ⟨?_⟩
      refine wpList_build_to rfl 25 _ rfl _ (by rw [Array.toList_map]; rfl) _ hbu ?_
      simp only [Act.put, List.setIfInBounds_toArray, List.set_cons_zero, List.set_cons_succ]
      go_wp2_with (refine stop_store 25 (.tmp 5) (.tmp 12) rfl ?_)
      refine ⟨?_⟩
      change wpList _ _ _ _ _ (v1.alloc (.cells (⟨0, 0, List.replicate 32 0⟩ : Fz).cells.toArray 25))
      have hN0 := Blk.new v1 25 (⟨0, 0, List.replicate 32 0⟩ : Fz).cells.toArray
      have ea := (Ext.refl v1).alloc (.cells (⟨0, 0, List.replicate 32 0⟩ : Fz).cells.toArray 25)
      have gs3 := hS.lt
      replace hS := hS.ext ea
      have gb_hR3 := hR.lt
      replace hR := hR.ext ea
      replace hU := hU.ext ea
      clear ea
      have hUs3 := hU.size
      obtain ⟨g3, g3e⟩ : ∃ g3, g3 = v1.heap.size := ⟨_, rfl⟩
      try rw [← g3e]
      rw [← g3e] at hN0
      have g3b : v1.heap.size ≤ g3 := by omega
      have g3c : g3 ≤ v1.heap.size := by omega
      clear g3e
      generalize v1.alloc (.cells (⟨0, 0, List.replicate 32 0⟩ : Fz).cells.toArray 25) = v2' at *
      refine wpList_store_row rfl 25 (.tmp 5) (.tmp 12) rfl g3 (⟨a.1, 0, List.replicate 32 0⟩ : Fz).cells.toArray (by rfl) (by rfl) 25 _ hN0 (Seal.size_fz (⟨a.1, 0, List.replicate 32 0⟩ : Fz) (by simp)) (by simp only [List.size_toArray]; rw [Seal.Fz.cells_length (⟨a.1, 0, List.replicate 32 0⟩ : Fz) (by simp)]; rfl) (all_oneCell_toArray (Seal.Fz.one (⟨a.1, 0, List.replicate 32 0⟩ : Fz))) ?_
      simp only [Act.put, List.setIfInBounds_toArray, List.set_cons_zero, List.set_cons_succ]
      have hN : FzAt (v2'.setRow g3 (⟨a.1, 0, List.replicate 32 0⟩ : Fz).cells.toArray) g3 (⟨a.1, 0, List.replicate 32 0⟩ : Fz) := Blk.row hN0 _
      replace hS := hS.rowF (show _ ≠ g3 by omega) (⟨a.1, 0, List.replicate 32 0⟩ : Fz).cells.toArray
      replace hR := hR.rowF (show _ ≠ g3 by omega) (⟨a.1, 0, List.replicate 32 0⟩ : Fz).cells.toArray
      replace hU := hU.rowNew (show w1.heap.size ≤ g3 by omega) (⟨a.1, 0, List.replicate 32 0⟩ : Fz).cells.toArray
      clear hN0
      generalize v2'.setRow g3 (⟨a.1, 0, List.replicate 32 0⟩ : Fz).cells.toArray = v2 at *
      go_wp2_with fail
      refine (H2.out _ g s' hS (by omega)).mono ?_; rintro e v4 ⟨rfl, hS', hU'⟩
      replace hS := hS'
      replace hR := hR.upd hU' (by omega)
      replace hN := hN.upd hU' (by omega)
      have sz4 := hU'.size
      replace hU := hU.trans hU'
      clear hS' hU'
      have fz0 := Blk.frozen hN 1
      have cc0 := hN.c1
      have lt0 := hN.lt
      go_wp2_with fail
      clear fz0 cc0 lt0
      replace hS := hS.farC (show _ ≠ g3 by omega) 1 (.int .i64 b.1)
      replace hR := hR.farC (show _ ≠ g3 by omega) 1 (.int .i64 b.1)
      replace hN := hN.cnt b.1
      replace hU : Upd _ w1 (v4.setCell ⟨g3, 1, none⟩ (.int .i64 b.1)) := hU.setCell (.inr (show w1.heap.size ≤ g3 by omega)) _
      generalize (v4.setCell ⟨g3, 1, none⟩ (.int .i64 b.1)) = v5 at *
      refine (H3.out _ g s' hS (by omega)).mono ?_; rintro e v6 ⟨rfl, hS', hU'⟩
      replace hS := hS'
      replace hR := hR.upd hU' (by omega)
      replace hN := hN.upd hU' (by omega)
      have sz6 := hU'.size
      replace hU := hU.trans hU'
      clear hS' hU'
      unfold sumV
      go_wp2_with (refine stop_store 23 (.tmp 18) (.tmp 17) rfl ?_)
      refine ⟨?_⟩
      have hth : v6.there g3 2 ((c.1).map byteV).toArray.size := Blk.there hN 2 _ (by rw [Seal.Fz.cells_length _ (by simp)]; simp [hz32])
      refine wpList_store_mid rfl 23 (.tmp 18) (.tmp 17) rfl g3 2 _ (by rfl) (by rfl) hth (size32.trans (by simp [hz32])) (by simp [byteV, Value.oneCell']) ?_
      simp only [Act.put, List.setIfInBounds_toArray, List.set_cons_zero, List.set_cons_succ]
      clear hth
      replace hS := hS.farCs (show _ ≠ g3 by omega) ((c.1).map byteV).toArray.toList 2
      replace hR := hR.farCs (show _ ≠ g3 by omega) ((c.1).map byteV).toArray.toList 2
      replace hN := hN.put c.1 (by simp [hz32])
      replace hU : Upd _ w1 (v6.setCells g3 2 ((c.1).map byteV).toArray.toList) := upd_cells (show w1.heap.size ≤ g3 by omega) _ _ _ hU
      generalize (v6.setCells g3 2 ((c.1).map byteV).toArray.toList) = v7 at *
      rw [← Hv.out] at hN
      go_wp2_with (refine stop_load 25 (.tmp 5) rfl ?_)
      refine ⟨?_⟩
      refine wpList_load_row rfl 25 (.tmp 5) rfl g3 (by rfl) 25 _ (0, 0) _ hN Try.underlying25 rfl (Seal.size_fz v vr) ?_
      simp only [Act.put, List.setIfInBounds_toArray, List.set_cons_zero, List.set_cons_succ]
      have hoo := Seal.Fz.out_ok v hm
      have Ho := Lib.hid hoo; clear hoo
      go_wp2_with fail
      change Calls _ _ #[v.v] _ _
      refine (refFreezeBytes_calls v vr _).mono ?_; rw [Ho.out.1, Ho.out.2]; rintro e v8 ⟨rfl, e9⟩
      replace hS := hS.ext e9
      replace hR := hR.ext e9
      replace hN := hN.ext e9
      have sz9 := e9.size
      replace hU := hU.ext e9
      clear e9
      go_wp2_with fail
      refine (rfEnd_calls g s' _ _ hS (by omega)).mono ?_; rw [he]; rintro e v10 ⟨rfl, zz, hzz⟩
      have ed : Ext v8 v10 := by rw [hzz]; exact (Ext.refl _).drewN _
      clear hzz
      replace hS := hS.ext ed
      replace hR := hR.ext ed
      replace hN := hN.ext ed
      replace hU := hU.ext ed
      clear ed
      have hX : Ext w v10 := hEB.upd hU (Nat.le_of_lt hgw)
      have hsz := Seal.size_fz v vr
      have hcl := Seal.Fz.cells_length v vr
      have hone := all_oneCell_toArray (Seal.Fz.one v)
      have Hcl := Lib.hid hcl; clear hcl
      go_wp2_with (refine stop_load 25 (.tmp 5) rfl ?_)
      refine ⟨?_⟩
      refine wpList_load_row rfl 25 (.tmp 5) rfl g3 (by rfl) 25 _ (0, 0) _ hN Try.underlying25 rfl (hsz) ?_
      simp only [Act.put, List.setIfInBounds_toArray, List.set_cons_zero, List.set_cons_succ]
      go_wp2_with (refine stop_store 25 (.tmp 2) (.tmp 32) rfl ?_)
      refine ⟨?_⟩
      refine wpList_store_row rfl 25 (.tmp 2) (.tmp 32) rfl w.heap.size v.cells.toArray (by rfl) (by rfl) 25 _ hR hsz (by simp only [List.size_toArray] <;> (try (rw [Hcl.out] <;> (try rfl)))) hone ?_
      simp only [Act.put, List.setIfInBounds_toArray, List.set_cons_zero, List.set_cons_succ]
      go_wp2_with fail
      (try simp only [Exit.inBlock, Exit.then])
      refine bodyPost_ret (res_two rfl _ _ w.heap.size 25 v.cells.toArray _ rfl (Blk.row hR v.cells.toArray) Try.underlying25 rfl hsz) rfl ?_
      exact ⟨rfl, hX.row (Nat.le_refl _) _⟩
    · have hres : (if c.2.endE = 0 ∧ v.may then some v else none) = none := if_neg (fun h => hm h.2)
      rw [hres]
      simp only [Option.getD_none, show Seal.errOf (none : Option Fz) = 10 from rfl]
      clear hres he0
      unfold Seal.Fz.v
      go_enter Try.func35, Try.ntmps35
      go_wp2_with fail
      change Calls _ _ _ (w.alloc (.cells Seal.zF.cells.toArray 25)) _
      generalize (w.alloc (.cells Seal.zF.cells.toArray 25)) = w0 at *
      refine (begin_calls s 70 _ hs).mono ?_; rintro e w1 ⟨g, s', rfl, hgB, hS, hs', e1⟩
      have hRl := hR.lt
      replace hR := hR.ext e1
      have hEB := hE.trans e1
      have hU : Upd g w1 w1 := Upd.refl _ _
      have hgl := hS.lt
      have hgw : w.heap.size < g := by omega
      clear e1 hE
      go_wp2_with fail
      refine (H1.out _ g s' hS (by omega)).mono ?_; rintro e v1 ⟨rfl, hS', hU'⟩
      replace hS := hS'
      replace hR := hR.upd hU' (by omega)
      have sz1 := hU'.size
      replace hU := hU.trans hU'
      clear hS' hU'
      go_wp2_with (refine stop_at 12 rfl ?_)
      refine ⟨?_⟩
      refine wpList_build_to rfl 25 _ rfl _ (by rw [Array.toList_map]; rfl) _ hbu ?_
      simp only [Act.put, List.setIfInBounds_toArray, List.set_cons_zero, List.set_cons_succ]
      go_wp2_with (refine stop_store 25 (.tmp 5) (.tmp 12) rfl ?_)
      refine ⟨?_⟩
      change wpList _ _ _ _ _ (v1.alloc (.cells (⟨0, 0, List.replicate 32 0⟩ : Fz).cells.toArray 25))
      have hN0 := Blk.new v1 25 (⟨0, 0, List.replicate 32 0⟩ : Fz).cells.toArray
      have ea := (Ext.refl v1).alloc (.cells (⟨0, 0, List.replicate 32 0⟩ : Fz).cells.toArray 25)
      have gs3 := hS.lt
      replace hS := hS.ext ea
      have gb_hR3 := hR.lt
      replace hR := hR.ext ea
      replace hU := hU.ext ea
      clear ea
      have hUs3 := hU.size
      obtain ⟨g3, g3e⟩ : ∃ g3, g3 = v1.heap.size := ⟨_, rfl⟩
      try rw [← g3e]
      rw [← g3e] at hN0
      have g3b : v1.heap.size ≤ g3 := by omega
      have g3c : g3 ≤ v1.heap.size := by omega
      clear g3e
      generalize v1.alloc (.cells (⟨0, 0, List.replicate 32 0⟩ : Fz).cells.toArray 25) = v2' at *
      refine wpList_store_row rfl 25 (.tmp 5) (.tmp 12) rfl g3 (⟨a.1, 0, List.replicate 32 0⟩ : Fz).cells.toArray (by rfl) (by rfl) 25 _ hN0 (Seal.size_fz (⟨a.1, 0, List.replicate 32 0⟩ : Fz) (by simp)) (by simp only [List.size_toArray]; rw [Seal.Fz.cells_length (⟨a.1, 0, List.replicate 32 0⟩ : Fz) (by simp)]; rfl) (all_oneCell_toArray (Seal.Fz.one (⟨a.1, 0, List.replicate 32 0⟩ : Fz))) ?_
      simp only [Act.put, List.setIfInBounds_toArray, List.set_cons_zero, List.set_cons_succ]
      have hN : FzAt (v2'.setRow g3 (⟨a.1, 0, List.replicate 32 0⟩ : Fz).cells.toArray) g3 (⟨a.1, 0, List.replicate 32 0⟩ : Fz) := Blk.row hN0 _
      replace hS := hS.rowF (show _ ≠ g3 by omega) (⟨a.1, 0, List.replicate 32 0⟩ : Fz).cells.toArray
      replace hR := hR.rowF (show _ ≠ g3 by omega) (⟨a.1, 0, List.replicate 32 0⟩ : Fz).cells.toArray
      replace hU := hU.rowNew (show w1.heap.size ≤ g3 by omega) (⟨a.1, 0, List.replicate 32 0⟩ : Fz).cells.toArray
      clear hN0
      generalize v2'.setRow g3 (⟨a.1, 0, List.replicate 32 0⟩ : Fz).cells.toArray = v2 at *
      go_wp2_with fail
      refine (H2.out _ g s' hS (by omega)).mono ?_; rintro e v4 ⟨rfl, hS', hU'⟩
      replace hS := hS'
      replace hR := hR.upd hU' (by omega)
      replace hN := hN.upd hU' (by omega)
      have sz4 := hU'.size
      replace hU := hU.trans hU'
      clear hS' hU'
      have fz0 := Blk.frozen hN 1
      have cc0 := hN.c1
      have lt0 := hN.lt
      go_wp2_with fail
      clear fz0 cc0 lt0
      replace hS := hS.farC (show _ ≠ g3 by omega) 1 (.int .i64 b.1)
      replace hR := hR.farC (show _ ≠ g3 by omega) 1 (.int .i64 b.1)
      replace hN := hN.cnt b.1
      replace hU : Upd _ w1 (v4.setCell ⟨g3, 1, none⟩ (.int .i64 b.1)) := hU.setCell (.inr (show w1.heap.size ≤ g3 by omega)) _
      generalize (v4.setCell ⟨g3, 1, none⟩ (.int .i64 b.1)) = v5 at *
      refine (H3.out _ g s' hS (by omega)).mono ?_; rintro e v6 ⟨rfl, hS', hU'⟩
      replace hS := hS'
      replace hR := hR.upd hU' (by omega)
      replace hN := hN.upd hU' (by omega)
      have sz6 := hU'.size
      replace hU := hU.trans hU'
      clear hS' hU'
      unfold sumV
      go_wp2_with (refine stop_store 23 (.tmp 18) (.tmp 17) rfl ?_)
      refine ⟨?_⟩
      have hth : v6.there g3 2 ((c.1).map byteV).toArray.size := Blk.there hN 2 _ (by rw [Seal.Fz.cells_length _ (by simp)]; simp [hz32])
      refine wpList_store_mid rfl 23 (.tmp 18) (.tmp 17) rfl g3 2 _ (by rfl) (by rfl) hth (size32.trans (by simp [hz32])) (by simp [byteV, Value.oneCell']) ?_
      simp only [Act.put, List.setIfInBounds_toArray, List.set_cons_zero, List.set_cons_succ]
      clear hth
      replace hS := hS.farCs (show _ ≠ g3 by omega) ((c.1).map byteV).toArray.toList 2
      replace hR := hR.farCs (show _ ≠ g3 by omega) ((c.1).map byteV).toArray.toList 2
      replace hN := hN.put c.1 (by simp [hz32])
      replace hU : Upd _ w1 (v6.setCells g3 2 ((c.1).map byteV).toArray.toList) := upd_cells (show w1.heap.size ≤ g3 by omega) _ _ _ hU
      generalize (v6.setCells g3 2 ((c.1).map byteV).toArray.toList) = v7 at *
      rw [← Hv.out] at hN
      go_wp2_with (refine stop_load 25 (.tmp 5) rfl ?_)
      refine ⟨?_⟩
      refine wpList_load_row rfl 25 (.tmp 5) rfl g3 (by rfl) 25 _ (0, 0) _ hN Try.underlying25 rfl (Seal.size_fz v vr) ?_
      simp only [Act.put, List.setIfInBounds_toArray, List.set_cons_zero, List.set_cons_succ]
      have hoo := Seal.Fz.out_no v hm
      have Ho := Lib.hid hoo; clear hoo
      go_wp2_with fail
      change Calls _ _ #[v.v] _ _
      refine (refFreezeBytes_calls v vr _).mono ?_; rw [Ho.out.1, Ho.out.2]; rintro e v8 ⟨rfl, e9⟩
      replace hS := hS.ext e9
      replace hR := hR.ext e9
      replace hN := hN.ext e9
      have sz9 := e9.size
      replace hU := hU.ext e9
      clear e9
      go_wp2_with fail
      refine (rfEnd_calls g s' _ _ hS (by omega)).mono ?_; rw [he]; rintro e v10 ⟨rfl, zz, hzz⟩
      have ed : Ext v8 v10 := by rw [hzz]; exact (Ext.refl _).drewN _
      clear hzz
      replace hS := hS.ext ed
      replace hR := hR.ext ed
      replace hN := hN.ext ed
      replace hU := hU.ext ed
      clear ed
      have hX : Ext w v10 := hEB.upd hU (Nat.le_of_lt hgw)
      have hsz := Seal.size_fz Seal.zF (by rfl)
      have hcl := Seal.Fz.cells_length Seal.zF (by rfl)
      have hone := all_oneCell_toArray (Seal.Fz.one Seal.zF)
      have Hcl := Lib.hid hcl; clear hcl
      go_wp2_with (refine stop_store 25 (.tmp 2) (.tmp 31) rfl ?_)
      refine ⟨?_⟩
      refine wpList_store_row rfl 25 (.tmp 2) (.tmp 31) rfl w.heap.size Seal.zF.cells.toArray (by rfl) (by rfl) 25 _ hR hsz (by simp only [List.size_toArray] <;> (try (rw [Hcl.out] <;> (try rfl)))) hone ?_
      simp only [Act.put, List.setIfInBounds_toArray, List.set_cons_zero, List.set_cons_succ]
      go_wp2_with fail
      (try simp only [Exit.inBlock, Exit.then])
      refine bodyPost_ret (res_two rfl _ _ w.heap.size 25 Seal.zF.cells.toArray _ rfl (Blk.row hR Seal.zF.cells.toArray) Try.underlying25 rfl hsz) rfl ?_
      exact ⟨rfl, hX.row (Nat.le_refl _) _⟩
  · have he : c.2.endE = 10 := by
      unfold Oct.Sc.endE at he0 ⊢
      split
      · rfl
      · rename_i h
        rw [if_neg h] at he0
        exact absurd rfl he0
    have hres : (if c.2.endE = 0 ∧ v.may then some v else none) = none := if_neg (fun h => he0 h.1)
    rw [hres]
    simp only [Option.getD_none, show Seal.errOf (none : Option Fz) = 10 from rfl]
    clear hres he0
    by_cases hm : v.may
    · skip
      unfold Seal.Fz.v
      go_enter Try.func35, Try.ntmps35
      go_wp2_with fail
      change Calls _ _ _ (w.alloc (.cells Seal.zF.cells.toArray 25)) _
      generalize (w.alloc (.cells Seal.zF.cells.toArray 25)) = w0 at *
      refine (begin_calls s 70 _ hs).mono ?_; rintro e w1 ⟨g, s', rfl, hgB, hS, hs', e1⟩
      have hRl := hR.lt
      replace hR := hR.ext e1
      have hEB := hE.trans e1
      have hU : Upd g w1 w1 := Upd.refl _ _
      have hgl := hS.lt
      have hgw : w.heap.size < g := by omega
      clear e1 hE
      go_wp2_with fail
      refine (H1.out _ g s' hS (by omega)).mono ?_; rintro e v1 ⟨rfl, hS', hU'⟩
      replace hS := hS'
      replace hR := hR.upd hU' (by omega)
      have sz1 := hU'.size
      replace hU := hU.trans hU'
      clear hS' hU'
      go_wp2_with (refine stop_at 12 rfl ?_)
      refine ⟨?_⟩
      refine wpList_build_to rfl 25 _ rfl _ (by rw [Array.toList_map]; rfl) _ hbu ?_
      simp only [Act.put, List.setIfInBounds_toArray, List.set_cons_zero, List.set_cons_succ]
      go_wp2_with (refine stop_store 25 (.tmp 5) (.tmp 12) rfl ?_)
      refine ⟨?_⟩
      change wpList _ _ _ _ _ (v1.alloc (.cells (⟨0, 0, List.replicate 32 0⟩ : Fz).cells.toArray 25))
      have hN0 := Blk.new v1 25 (⟨0, 0, List.replicate 32 0⟩ : Fz).cells.toArray
      have ea := (Ext.refl v1).alloc (.cells (⟨0, 0, List.replicate 32 0⟩ : Fz).cells.toArray 25)
      have gs3 := hS.lt
      replace hS := hS.ext ea
      have gb_hR3 := hR.lt
      replace hR := hR.ext ea
      replace hU := hU.ext ea
      clear ea
      have hUs3 := hU.size
      obtain ⟨g3, g3e⟩ : ∃ g3, g3 = v1.heap.size := ⟨_, rfl⟩
      try rw [← g3e]
      rw [← g3e] at hN0
      have g3b : v1.heap.size ≤ g3 := by omega
      have g3c : g3 ≤ v1.heap.size := by omega
      clear g3e
      generalize v1.alloc (.cells (⟨0, 0, List.replicate 32 0⟩ : Fz).cells.toArray 25) = v2' at *
      refine wpList_store_row rfl 25 (.tmp 5) (.tmp 12) rfl g3 (⟨a.1, 0, List.replicate 32 0⟩ : Fz).cells.toArray (by rfl) (by rfl) 25 _ hN0 (Seal.size_fz (⟨a.1, 0, List.replicate 32 0⟩ : Fz) (by simp)) (by simp only [List.size_toArray]; rw [Seal.Fz.cells_length (⟨a.1, 0, List.replicate 32 0⟩ : Fz) (by simp)]; rfl) (all_oneCell_toArray (Seal.Fz.one (⟨a.1, 0, List.replicate 32 0⟩ : Fz))) ?_
      simp only [Act.put, List.setIfInBounds_toArray, List.set_cons_zero, List.set_cons_succ]
      have hN : FzAt (v2'.setRow g3 (⟨a.1, 0, List.replicate 32 0⟩ : Fz).cells.toArray) g3 (⟨a.1, 0, List.replicate 32 0⟩ : Fz) := Blk.row hN0 _
      replace hS := hS.rowF (show _ ≠ g3 by omega) (⟨a.1, 0, List.replicate 32 0⟩ : Fz).cells.toArray
      replace hR := hR.rowF (show _ ≠ g3 by omega) (⟨a.1, 0, List.replicate 32 0⟩ : Fz).cells.toArray
      replace hU := hU.rowNew (show w1.heap.size ≤ g3 by omega) (⟨a.1, 0, List.replicate 32 0⟩ : Fz).cells.toArray
      clear hN0
      generalize v2'.setRow g3 (⟨a.1, 0, List.replicate 32 0⟩ : Fz).cells.toArray = v2 at *
      go_wp2_with fail
      refine (H2.out _ g s' hS (by omega)).mono ?_; rintro e v4 ⟨rfl, hS', hU'⟩
      replace hS := hS'
      replace hR := hR.upd hU' (by omega)
      replace hN := hN.upd hU' (by omega)
      have sz4 := hU'.size
      replace hU := hU.trans hU'
      clear hS' hU'
      have fz0 := Blk.frozen hN 1
      have cc0 := hN.c1
      have lt0 := hN.lt
      go_wp2_with fail
      clear fz0 cc0 lt0
      replace hS := hS.farC (show _ ≠ g3 by omega) 1 (.int .i64 b.1)
      replace hR := hR.farC (show _ ≠ g3 by omega) 1 (.int .i64 b.1)
      replace hN := hN.cnt b.1
      replace hU : Upd _ w1 (v4.setCell ⟨g3, 1, none⟩ (.int .i64 b.1)) := hU.setCell (.inr (show w1.heap.size ≤ g3 by omega)) _
      generalize (v4.setCell ⟨g3, 1, none⟩ (.int .i64 b.1)) = v5 at *
      refine (H3.out _ g s' hS (by omega)).mono ?_; rintro e v6 ⟨rfl, hS', hU'⟩
      replace hS := hS'
      replace hR := hR.upd hU' (by omega)
      replace hN := hN.upd hU' (by omega)
      have sz6 := hU'.size
      replace hU := hU.trans hU'
      clear hS' hU'
      unfold sumV
      go_wp2_with (refine stop_store 23 (.tmp 18) (.tmp 17) rfl ?_)
      refine ⟨?_⟩
      have hth : v6.there g3 2 ((c.1).map byteV).toArray.size := Blk.there hN 2 _ (by rw [Seal.Fz.cells_length _ (by simp)]; simp [hz32])
      refine wpList_store_mid rfl 23 (.tmp 18) (.tmp 17) rfl g3 2 _ (by rfl) (by rfl) hth (size32.trans (by simp [hz32])) (by simp [byteV, Value.oneCell']) ?_
      simp only [Act.put, List.setIfInBounds_toArray, List.set_cons_zero, List.set_cons_succ]
      clear hth
      replace hS := hS.farCs (show _ ≠ g3 by omega) ((c.1).map byteV).toArray.toList 2
      replace hR := hR.farCs (show _ ≠ g3 by omega) ((c.1).map byteV).toArray.toList 2
      replace hN := hN.put c.1 (by simp [hz32])
      replace hU : Upd _ w1 (v6.setCells g3 2 ((c.1).map byteV).toArray.toList) := upd_cells (show w1.heap.size ≤ g3 by omega) _ _ _ hU
      generalize (v6.setCells g3 2 ((c.1).map byteV).toArray.toList) = v7 at *
      rw [← Hv.out] at hN
      go_wp2_with (refine stop_load 25 (.tmp 5) rfl ?_)
      refine ⟨?_⟩
      refine wpList_load_row rfl 25 (.tmp 5) rfl g3 (by rfl) 25 _ (0, 0) _ hN Try.underlying25 rfl (Seal.size_fz v vr) ?_
      simp only [Act.put, List.setIfInBounds_toArray, List.set_cons_zero, List.set_cons_succ]
      have hoo := Seal.Fz.out_ok v hm
      have Ho := Lib.hid hoo; clear hoo
      go_wp2_with fail
      change Calls _ _ #[v.v] _ _
      refine (refFreezeBytes_calls v vr _).mono ?_; rw [Ho.out.1, Ho.out.2]; rintro e v8 ⟨rfl, e9⟩
      replace hS := hS.ext e9
      replace hR := hR.ext e9
      replace hN := hN.ext e9
      have sz9 := e9.size
      replace hU := hU.ext e9
      clear e9
      go_wp2_with fail
      refine (rfEnd_calls g s' _ _ hS (by omega)).mono ?_; rw [he]; rintro e v10 ⟨rfl, zz, hzz⟩
      have ed : Ext v8 v10 := by rw [hzz]; exact (Ext.refl _).drewN _
      clear hzz
      replace hS := hS.ext ed
      replace hR := hR.ext ed
      replace hN := hN.ext ed
      replace hU := hU.ext ed
      clear ed
      have hX : Ext w v10 := hEB.upd hU (Nat.le_of_lt hgw)
      have hsz := Seal.size_fz Seal.zF (by rfl)
      have hcl := Seal.Fz.cells_length Seal.zF (by rfl)
      have hone := all_oneCell_toArray (Seal.Fz.one Seal.zF)
      have Hcl := Lib.hid hcl; clear hcl
      go_wp2_with (refine stop_store 25 (.tmp 2) (.tmp 31) rfl ?_)
      refine ⟨?_⟩
      refine wpList_store_row rfl 25 (.tmp 2) (.tmp 31) rfl w.heap.size Seal.zF.cells.toArray (by rfl) (by rfl) 25 _ hR hsz (by simp only [List.size_toArray] <;> (try (rw [Hcl.out] <;> (try rfl)))) hone ?_
      simp only [Act.put, List.setIfInBounds_toArray, List.set_cons_zero, List.set_cons_succ]
      go_wp2_with fail
      (try simp only [Exit.inBlock, Exit.then])
      refine bodyPost_ret (res_two rfl _ _ w.heap.size 25 Seal.zF.cells.toArray _ rfl (Blk.row hR Seal.zF.cells.toArray) Try.underlying25 rfl hsz) rfl ?_
      exact ⟨rfl, hX.row (Nat.le_refl _) _⟩
    · skip
      unfold Seal.Fz.v
      go_enter Try.func35, Try.ntmps35
      go_wp2_with fail
      change Calls _ _ _ (w.alloc (.cells Seal.zF.cells.toArray 25)) _
      generalize (w.alloc (.cells Seal.zF.cells.toArray 25)) = w0 at *
      refine (begin_calls s 70 _ hs).mono ?_; rintro e w1 ⟨g, s', rfl, hgB, hS, hs', e1⟩
      have hRl := hR.lt
      replace hR := hR.ext e1
      have hEB := hE.trans e1
      have hU : Upd g w1 w1 := Upd.refl _ _
      have hgl := hS.lt
      have hgw : w.heap.size < g := by omega
      clear e1 hE
      go_wp2_with fail
      refine (H1.out _ g s' hS (by omega)).mono ?_; rintro e v1 ⟨rfl, hS', hU'⟩
      replace hS := hS'
      replace hR := hR.upd hU' (by omega)
      have sz1 := hU'.size
      replace hU := hU.trans hU'
      clear hS' hU'
      go_wp2_with (refine stop_at 12 rfl ?_)
      refine ⟨?_⟩
      refine wpList_build_to rfl 25 _ rfl _ (by rw [Array.toList_map]; rfl) _ hbu ?_
      simp only [Act.put, List.setIfInBounds_toArray, List.set_cons_zero, List.set_cons_succ]
      go_wp2_with (refine stop_store 25 (.tmp 5) (.tmp 12) rfl ?_)
      refine ⟨?_⟩
      change wpList _ _ _ _ _ (v1.alloc (.cells (⟨0, 0, List.replicate 32 0⟩ : Fz).cells.toArray 25))
      have hN0 := Blk.new v1 25 (⟨0, 0, List.replicate 32 0⟩ : Fz).cells.toArray
      have ea := (Ext.refl v1).alloc (.cells (⟨0, 0, List.replicate 32 0⟩ : Fz).cells.toArray 25)
      have gs3 := hS.lt
      replace hS := hS.ext ea
      have gb_hR3 := hR.lt
      replace hR := hR.ext ea
      replace hU := hU.ext ea
      clear ea
      have hUs3 := hU.size
      obtain ⟨g3, g3e⟩ : ∃ g3, g3 = v1.heap.size := ⟨_, rfl⟩
      try rw [← g3e]
      rw [← g3e] at hN0
      have g3b : v1.heap.size ≤ g3 := by omega
      have g3c : g3 ≤ v1.heap.size := by omega
      clear g3e
      generalize v1.alloc (.cells (⟨0, 0, List.replicate 32 0⟩ : Fz).cells.toArray 25) = v2' at *
      refine wpList_store_row rfl 25 (.tmp 5) (.tmp 12) rfl g3 (⟨a.1, 0, List.replicate 32 0⟩ : Fz).cells.toArray (by rfl) (by rfl) 25 _ hN0 (Seal.size_fz (⟨a.1, 0, List.replicate 32 0⟩ : Fz) (by simp)) (by simp only [List.size_toArray]; rw [Seal.Fz.cells_length (⟨a.1, 0, List.replicate 32 0⟩ : Fz) (by simp)]; rfl) (all_oneCell_toArray (Seal.Fz.one (⟨a.1, 0, List.replicate 32 0⟩ : Fz))) ?_
      simp only [Act.put, List.setIfInBounds_toArray, List.set_cons_zero, List.set_cons_succ]
      have hN : FzAt (v2'.setRow g3 (⟨a.1, 0, List.replicate 32 0⟩ : Fz).cells.toArray) g3 (⟨a.1, 0, List.replicate 32 0⟩ : Fz) := Blk.row hN0 _
      replace hS := hS.rowF (show _ ≠ g3 by omega) (⟨a.1, 0, List.replicate 32 0⟩ : Fz).cells.toArray
      replace hR := hR.rowF (show _ ≠ g3 by omega) (⟨a.1, 0, List.replicate 32 0⟩ : Fz).cells.toArray
      replace hU := hU.rowNew (show w1.heap.size ≤ g3 by omega) (⟨a.1, 0, List.replicate 32 0⟩ : Fz).cells.toArray
      clear hN0
      generalize v2'.setRow g3 (⟨a.1, 0, List.replicate 32 0⟩ : Fz).cells.toArray = v2 at *
      go_wp2_with fail
      refine (H2.out _ g s' hS (by omega)).mono ?_; rintro e v4 ⟨rfl, hS', hU'⟩
      replace hS := hS'
      replace hR := hR.upd hU' (by omega)
      replace hN := hN.upd hU' (by omega)
      have sz4 := hU'.size
      replace hU := hU.trans hU'
      clear hS' hU'
      have fz0 := Blk.frozen hN 1
      have cc0 := hN.c1
      have lt0 := hN.lt
      go_wp2_with fail
      clear fz0 cc0 lt0
      replace hS := hS.farC (show _ ≠ g3 by omega) 1 (.int .i64 b.1)
      replace hR := hR.farC (show _ ≠ g3 by omega) 1 (.int .i64 b.1)
      replace hN := hN.cnt b.1
      replace hU : Upd _ w1 (v4.setCell ⟨g3, 1, none⟩ (.int .i64 b.1)) := hU.setCell (.inr (show w1.heap.size ≤ g3 by omega)) _
      generalize (v4.setCell ⟨g3, 1, none⟩ (.int .i64 b.1)) = v5 at *
      refine (H3.out _ g s' hS (by omega)).mono ?_; rintro e v6 ⟨rfl, hS', hU'⟩
      replace hS := hS'
      replace hR := hR.upd hU' (by omega)
      replace hN := hN.upd hU' (by omega)
      have sz6 := hU'.size
      replace hU := hU.trans hU'
      clear hS' hU'
      unfold sumV
      go_wp2_with (refine stop_store 23 (.tmp 18) (.tmp 17) rfl ?_)
      refine ⟨?_⟩
      have hth : v6.there g3 2 ((c.1).map byteV).toArray.size := Blk.there hN 2 _ (by rw [Seal.Fz.cells_length _ (by simp)]; simp [hz32])
      refine wpList_store_mid rfl 23 (.tmp 18) (.tmp 17) rfl g3 2 _ (by rfl) (by rfl) hth (size32.trans (by simp [hz32])) (by simp [byteV, Value.oneCell']) ?_
      simp only [Act.put, List.setIfInBounds_toArray, List.set_cons_zero, List.set_cons_succ]
      clear hth
      replace hS := hS.farCs (show _ ≠ g3 by omega) ((c.1).map byteV).toArray.toList 2
      replace hR := hR.farCs (show _ ≠ g3 by omega) ((c.1).map byteV).toArray.toList 2
      replace hN := hN.put c.1 (by simp [hz32])
      replace hU : Upd _ w1 (v6.setCells g3 2 ((c.1).map byteV).toArray.toList) := upd_cells (show w1.heap.size ≤ g3 by omega) _ _ _ hU
      generalize (v6.setCells g3 2 ((c.1).map byteV).toArray.toList) = v7 at *
      rw [← Hv.out] at hN
      go_wp2_with (refine stop_load 25 (.tmp 5) rfl ?_)
      refine ⟨?_⟩
      refine wpList_load_row rfl 25 (.tmp 5) rfl g3 (by rfl) 25 _ (0, 0) _ hN Try.underlying25 rfl (Seal.size_fz v vr) ?_
      simp only [Act.put, List.setIfInBounds_toArray, List.set_cons_zero, List.set_cons_succ]
      have hoo := Seal.Fz.out_no v hm
      have Ho := Lib.hid hoo; clear hoo
      go_wp2_with fail
      change Calls _ _ #[v.v] _ _
      refine (refFreezeBytes_calls v vr _).mono ?_; rw [Ho.out.1, Ho.out.2]; rintro e v8 ⟨rfl, e9⟩
      replace hS := hS.ext e9
      replace hR := hR.ext e9
      replace hN := hN.ext e9
      have sz9 := e9.size
      replace hU := hU.ext e9
      clear e9
      go_wp2_with fail
      refine (rfEnd_calls g s' _ _ hS (by omega)).mono ?_; rw [he]; rintro e v10 ⟨rfl, zz, hzz⟩
      have ed : Ext v8 v10 := by rw [hzz]; exact (Ext.refl _).drewN _
      clear hzz
      replace hS := hS.ext ed
      replace hR := hR.ext ed
      replace hN := hN.ext ed
      replace hU := hU.ext ed
      clear ed
      have hX : Ext w v10 := hEB.upd hU (Nat.le_of_lt hgw)
      have hsz := Seal.size_fz Seal.zF (by rfl)
      have hcl := Seal.Fz.cells_length Seal.zF (by rfl)
      have hone := all_oneCell_toArray (Seal.Fz.one Seal.zF)
      have Hcl := Lib.hid hcl; clear hcl
      go_wp2_with (refine stop_store 25 (.tmp 2) (.tmp 31) rfl ?_)
      refine ⟨?_⟩
      refine wpList_store_row rfl 25 (.tmp 2) (.tmp 31) rfl w.heap.size Seal.zF.cells.toArray (by rfl) (by rfl) 25 _ hR hsz (by simp only [List.size_toArray] <;> (try (rw [Hcl.out] <;> (try rfl)))) hone ?_
      simp only [Act.put, List.setIfInBounds_toArray, List.set_cons_zero, List.set_cons_succ]
      go_wp2_with fail
      (try simp only [Exit.inBlock, Exit.then])
      refine bodyPost_ret (res_two rfl _ _ w.heap.size 25 Seal.zF.cells.toArray _ rfl (Blk.row hR Seal.zF.cells.toArray) Try.underlying25 rfl hsz) rfl ?_
      exact ⟨rfl, hX.row (Nat.le_refl _) _⟩

set_option maxHeartbeats 4000000 in
theorem refReadHead_calls (s : List UInt8) (hs : s.length ≤ 1099511627776) (w : World) :
    Calls Try.prog 39 #[.string (bs s)] w fun e w' => e = .returned (.tuple #[((Seal.Hd.read s).getD Seal.zH).v, .int .i64 (Seal.errOf (Seal.Hd.read s))]) ∧ Ext w w' := by
  have hR : HdAt (w.alloc (.cells Seal.zH.cells.toArray 28)) w.heap.size Seal.zH := by
    have := Blk.new w 28 Seal.zH.cells.toArray
    exact this
  have hE : Ext w (w.alloc (.cells Seal.zH.cells.toArray 28)) := (Ext.refl w).alloc _
  have hread := Seal.Hd.readR_eq s
  rw [← hread]
  unfold Seal.Hd.readR
  simp only
  have HN1 := fun w g s' hw (hs' : s'.length ≤ 1099511627776) => rfNum_calls g s' (Seal.begin_ s 72) 1099511627776 w hw hs' (by omega) (by omega)
  have HN2 := fun w g s' hw (hs' : s'.length ≤ 1099511627776) => rfHash_calls g s' ((Seal.begin_ s 72).num 1099511627776).2 w hw hs'
  generalize (Seal.begin_ s 72).num 1099511627776 = a at *
  have hz32 : (Seal.hashR a.2).1.length = 32 := by
    unfold Seal.hashR
    split
    · assumption
    · simp
  generalize Seal.hashR a.2 = b at *
  have HN3 := fun w g s' hw (hs' : s'.length ≤ 1099511627776) => rfNum_calls g s' b.2 1125899906842624 w hw hs' (by omega) (by omega)
  have HN4 := fun w g s' hw (hs' : s'.length ≤ 1099511627776) => rfHash_calls g s' (b.2.num 1125899906842624).2 w hw hs'
  generalize b.2.num 1125899906842624 = c at *
  have hy32 : (Seal.hashR c.2).1.length = 32 := by
    unfold Seal.hashR
    split
    · assumption
    · simp
  generalize Seal.hashR c.2 = d at *
  obtain ⟨v, hv⟩ : ∃ v : Hd, v = ⟨a.1, b.1, c.1, d.1⟩ := ⟨_, rfl⟩
  rw [← hv]
  have vr : v.root.length = 32 := by rw [hv]; exact hz32
  have vm : v.mac.length = 32 := by rw [hv]; exact hy32
  have hbu := built_hd1 a.1
  have H1 := Lib.hid HN1; have H2 := Lib.hid HN2; have H3 := Lib.hid HN3; have H4 := Lib.hid HN4; have Hv := Lib.hid hv
  clear HN1 HN2 HN3 HN4 hread hv
  by_cases he0 : d.2.endE = 0
  · have he := he0
    have hres : (if d.2.endE = 0 then some v else none) = some v := if_pos he0
    rw [hres]
    simp only [Option.getD_some, show Seal.errOf (some v) = 0 from rfl]
    clear hres he0
    unfold Seal.Hd.v
    go_enter Try.func39, Try.ntmps39
    go_wp2_with fail
    change Calls _ _ _ (w.alloc (.cells Seal.zH.cells.toArray 28)) _
    generalize (w.alloc (.cells Seal.zH.cells.toArray 28)) = w0 at *
    refine (begin_calls s 72 _ hs).mono ?_; rintro e w1 ⟨g, s', rfl, hgB, hS, hs', e1⟩
    have hRl := hR.lt
    replace hR := hR.ext e1
    have hEB := hE.trans e1
    have hU : Upd g w1 w1 := Upd.refl _ _
    have hgl := hS.lt
    have hgw : w.heap.size < g := by omega
    clear e1 hE
    go_wp2_with fail
    refine (H1.out _ g s' hS (by omega)).mono ?_; rintro e v1 ⟨rfl, hS', hU'⟩
    replace hS := hS'
    replace hR := hR.upd hU' (by omega)
    have sz1 := hU'.size
    replace hU := hU.trans hU'
    clear hS' hU'
    go_wp2_with (refine stop_at 10 rfl ?_)
    refine ⟨?_⟩
    refine wpList_build_to rfl 28 _ rfl _ (by rw [Array.toList_map]; rfl) _ hbu ?_
    simp only [Act.put, List.setIfInBounds_toArray, List.set_cons_zero, List.set_cons_succ]
    go_wp2_with (refine stop_store 28 (.tmp 5) (.tmp 10) rfl ?_)
    refine ⟨?_⟩
    change wpList _ _ _ _ _ (v1.alloc (.cells (⟨0, List.replicate 32 0, 0, List.replicate 32 0⟩ : Hd).cells.toArray 28))
    have hN0 := Blk.new v1 28 (⟨0, List.replicate 32 0, 0, List.replicate 32 0⟩ : Hd).cells.toArray
    have ea := (Ext.refl v1).alloc (.cells (⟨0, List.replicate 32 0, 0, List.replicate 32 0⟩ : Hd).cells.toArray 28)
    have gs3 := hS.lt
    replace hS := hS.ext ea
    have gb_hR3 := hR.lt
    replace hR := hR.ext ea
    replace hU := hU.ext ea
    clear ea
    have hUs3 := hU.size
    obtain ⟨g3, g3e⟩ : ∃ g3, g3 = v1.heap.size := ⟨_, rfl⟩
    try rw [← g3e]
    rw [← g3e] at hN0
    have g3b : v1.heap.size ≤ g3 := by omega
    have g3c : g3 ≤ v1.heap.size := by omega
    clear g3e
    generalize v1.alloc (.cells (⟨0, List.replicate 32 0, 0, List.replicate 32 0⟩ : Hd).cells.toArray 28) = v2' at *
    refine wpList_store_row rfl 28 (.tmp 5) (.tmp 10) rfl g3 (⟨a.1, List.replicate 32 0, 0, List.replicate 32 0⟩ : Hd).cells.toArray (by rfl) (by rfl) 28 _ hN0 (Seal.size_hd (⟨a.1, List.replicate 32 0, 0, List.replicate 32 0⟩ : Hd) (by simp) (by simp)) (by simp only [List.size_toArray]; rw [Seal.Hd.cells_length (⟨a.1, List.replicate 32 0, 0, List.replicate 32 0⟩ : Hd) (by simp) (by simp)]; rfl) (all_oneCell_toArray (Seal.Hd.one (⟨a.1, List.replicate 32 0, 0, List.replicate 32 0⟩ : Hd))) ?_
    simp only [Act.put, List.setIfInBounds_toArray, List.set_cons_zero, List.set_cons_succ]
    have hN : HdAt (v2'.setRow g3 (⟨a.1, List.replicate 32 0, 0, List.replicate 32 0⟩ : Hd).cells.toArray) g3 (⟨a.1, List.replicate 32 0, 0, List.replicate 32 0⟩ : Hd) := Blk.row hN0 _
    replace hS := hS.rowF (show _ ≠ g3 by omega) (⟨a.1, List.replicate 32 0, 0, List.replicate 32 0⟩ : Hd).cells.toArray
    replace hR := hR.rowF (show _ ≠ g3 by omega) (⟨a.1, List.replicate 32 0, 0, List.replicate 32 0⟩ : Hd).cells.toArray
    replace hU := hU.rowNew (show w1.heap.size ≤ g3 by omega) (⟨a.1, List.replicate 32 0, 0, List.replicate 32 0⟩ : Hd).cells.toArray
    clear hN0
    generalize v2'.setRow g3 (⟨a.1, List.replicate 32 0, 0, List.replicate 32 0⟩ : Hd).cells.toArray = v2 at *
    go_wp2_with fail
    refine (H2.out _ g s' hS (by omega)).mono ?_; rintro e v4 ⟨rfl, hS', hU'⟩
    replace hS := hS'
    replace hR := hR.upd hU' (by omega)
    replace hN := hN.upd hU' (by omega)
    have sz4 := hU'.size
    replace hU := hU.trans hU'
    clear hS' hU'
    unfold sumV
    go_wp2_with (refine stop_store 23 (.tmp 13) (.tmp 12) rfl ?_)
    refine ⟨?_⟩
    have hth : v4.there g3 1 ((b.1).map byteV).toArray.size := Blk.there hN 1 _ (by rw [Seal.Hd.cells_length _ (by simp) (by simp)]; simp [hz32])
    refine wpList_store_mid rfl 23 (.tmp 13) (.tmp 12) rfl g3 1 _ (by rfl) (by rfl) hth (size32.trans (by simp [hz32])) (by simp [byteV, Value.oneCell']) ?_
    simp only [Act.put, List.setIfInBounds_toArray, List.set_cons_zero, List.set_cons_succ]
    clear hth
    replace hS := hS.farCs (show _ ≠ g3 by omega) ((b.1).map byteV).toArray.toList 1
    replace hR := hR.farCs (show _ ≠ g3 by omega) ((b.1).map byteV).toArray.toList 1
    replace hN := hN.putRoot b.1 (by simp [hz32])
    replace hU : Upd _ w1 (v4.setCells g3 1 ((b.1).map byteV).toArray.toList) := upd_cells (show w1.heap.size ≤ g3 by omega) _ _ _ hU
    generalize (v4.setCells g3 1 ((b.1).map byteV).toArray.toList) = v5 at *
    go_wp2_with fail
    refine (H3.out _ g s' hS (by omega)).mono ?_; rintro e v6 ⟨rfl, hS', hU'⟩
    replace hS := hS'
    replace hR := hR.upd hU' (by omega)
    replace hN := hN.upd hU' (by omega)
    have sz6 := hU'.size
    replace hU := hU.trans hU'
    clear hS' hU'
    have fz0 := Blk.frozen hN 33
    have cc0 := hN.c33 hz32
    have lt0 := hN.lt
    go_wp2_with fail
    clear fz0 cc0 lt0
    replace hS := hS.farC (show _ ≠ g3 by omega) 33 (.int .i64 c.1)
    replace hR := hR.farC (show _ ≠ g3 by omega) 33 (.int .i64 c.1)
    replace hN := hN.clk hz32 c.1
    replace hU : Upd _ w1 (v6.setCell ⟨g3, 33, none⟩ (.int .i64 c.1)) := hU.setCell (.inr (show w1.heap.size ≤ g3 by omega)) _
    generalize (v6.setCell ⟨g3, 33, none⟩ (.int .i64 c.1)) = v7 at *
    refine (H4.out _ g s' hS (by omega)).mono ?_; rintro e v8 ⟨rfl, hS', hU'⟩
    replace hS := hS'
    replace hR := hR.upd hU' (by omega)
    replace hN := hN.upd hU' (by omega)
    have sz8 := hU'.size
    replace hU := hU.trans hU'
    clear hS' hU'
    unfold sumV
    go_wp2_with (refine stop_store 23 (.tmp 19) (.tmp 18) rfl ?_)
    refine ⟨?_⟩
    have hth : v8.there g3 34 ((d.1).map byteV).toArray.size := Blk.there hN 34 _ (by rw [Seal.Hd.cells_length _ hz32 (by simp)]; simp [hy32])
    refine wpList_store_mid rfl 23 (.tmp 19) (.tmp 18) rfl g3 34 _ (by rfl) (by rfl) hth (size32.trans (by simp [hy32])) (by simp [byteV, Value.oneCell']) ?_
    simp only [Act.put, List.setIfInBounds_toArray, List.set_cons_zero, List.set_cons_succ]
    clear hth
    replace hS := hS.farCs (show _ ≠ g3 by omega) ((d.1).map byteV).toArray.toList 34
    replace hR := hR.farCs (show _ ≠ g3 by omega) ((d.1).map byteV).toArray.toList 34
    replace hN := hN.putMac hz32 d.1 (by simp [hy32])
    replace hU : Upd _ w1 (v8.setCells g3 34 ((d.1).map byteV).toArray.toList) := upd_cells (show w1.heap.size ≤ g3 by omega) _ _ _ hU
    generalize (v8.setCells g3 34 ((d.1).map byteV).toArray.toList) = v9 at *
    rw [← Hv.out] at hN
    go_wp2_with fail
    refine (rfEnd_calls g s' _ _ hS (by omega)).mono ?_; rw [he]; rintro e v10 ⟨rfl, zz, hzz⟩
    have ed : Ext v9 v10 := by rw [hzz]; exact (Ext.refl _).drewN _
    clear hzz
    replace hS := hS.ext ed
    replace hR := hR.ext ed
    replace hN := hN.ext ed
    replace hU := hU.ext ed
    clear ed
    have hX : Ext w v10 := hEB.upd hU (Nat.le_of_lt hgw)
    have hsz := Seal.size_hd v vr vm
    have hcl := Seal.Hd.cells_length v vr vm
    have hone := all_oneCell_toArray (Seal.Hd.one v)
    have Hcl := Lib.hid hcl; clear hcl
    go_wp2_with (refine stop_load 28 (.tmp 5) rfl ?_)
    refine ⟨?_⟩
    refine wpList_load_row rfl 28 (.tmp 5) rfl g3 (by rfl) 28 _ (0, 0) _ hN Try.underlying28 rfl (hsz) ?_
    simp only [Act.put, List.setIfInBounds_toArray, List.set_cons_zero, List.set_cons_succ]
    go_wp2_with (refine stop_store 28 (.tmp 2) (.tmp 24) rfl ?_)
    refine ⟨?_⟩
    refine wpList_store_row rfl 28 (.tmp 2) (.tmp 24) rfl w.heap.size v.cells.toArray (by rfl) (by rfl) 28 _ hR hsz (by simp only [List.size_toArray] <;> (try (rw [Hcl.out] <;> (try rfl)))) hone ?_
    simp only [Act.put, List.setIfInBounds_toArray, List.set_cons_zero, List.set_cons_succ]
    go_wp2_with fail
    (try simp only [Exit.inBlock, Exit.then])
    refine bodyPost_ret (res_two rfl _ _ w.heap.size 28 v.cells.toArray _ rfl (Blk.row hR v.cells.toArray) Try.underlying28 rfl hsz) rfl ?_
    exact ⟨rfl, hX.row (Nat.le_refl _) _⟩
  · have he : d.2.endE = 10 := by
      unfold Oct.Sc.endE at he0 ⊢
      split
      · rfl
      · rename_i h
        rw [if_neg h] at he0
        exact absurd rfl he0
    have hres : (if d.2.endE = 0 then some v else none) = none := if_neg he0
    rw [hres]
    simp only [Option.getD_none, show Seal.errOf (none : Option Hd) = 10 from rfl]
    clear hres he0
    unfold Seal.Hd.v
    go_enter Try.func39, Try.ntmps39
    go_wp2_with fail
    change Calls _ _ _ (w.alloc (.cells Seal.zH.cells.toArray 28)) _
    generalize (w.alloc (.cells Seal.zH.cells.toArray 28)) = w0 at *
    refine (begin_calls s 72 _ hs).mono ?_; rintro e w1 ⟨g, s', rfl, hgB, hS, hs', e1⟩
    have hRl := hR.lt
    replace hR := hR.ext e1
    have hEB := hE.trans e1
    have hU : Upd g w1 w1 := Upd.refl _ _
    have hgl := hS.lt
    have hgw : w.heap.size < g := by omega
    clear e1 hE
    go_wp2_with fail
    refine (H1.out _ g s' hS (by omega)).mono ?_; rintro e v1 ⟨rfl, hS', hU'⟩
    replace hS := hS'
    replace hR := hR.upd hU' (by omega)
    have sz1 := hU'.size
    replace hU := hU.trans hU'
    clear hS' hU'
    go_wp2_with (refine stop_at 10 rfl ?_)
    refine ⟨?_⟩
    refine wpList_build_to rfl 28 _ rfl _ (by rw [Array.toList_map]; rfl) _ hbu ?_
    simp only [Act.put, List.setIfInBounds_toArray, List.set_cons_zero, List.set_cons_succ]
    go_wp2_with (refine stop_store 28 (.tmp 5) (.tmp 10) rfl ?_)
    refine ⟨?_⟩
    change wpList _ _ _ _ _ (v1.alloc (.cells (⟨0, List.replicate 32 0, 0, List.replicate 32 0⟩ : Hd).cells.toArray 28))
    have hN0 := Blk.new v1 28 (⟨0, List.replicate 32 0, 0, List.replicate 32 0⟩ : Hd).cells.toArray
    have ea := (Ext.refl v1).alloc (.cells (⟨0, List.replicate 32 0, 0, List.replicate 32 0⟩ : Hd).cells.toArray 28)
    have gs3 := hS.lt
    replace hS := hS.ext ea
    have gb_hR3 := hR.lt
    replace hR := hR.ext ea
    replace hU := hU.ext ea
    clear ea
    have hUs3 := hU.size
    obtain ⟨g3, g3e⟩ : ∃ g3, g3 = v1.heap.size := ⟨_, rfl⟩
    try rw [← g3e]
    rw [← g3e] at hN0
    have g3b : v1.heap.size ≤ g3 := by omega
    have g3c : g3 ≤ v1.heap.size := by omega
    clear g3e
    generalize v1.alloc (.cells (⟨0, List.replicate 32 0, 0, List.replicate 32 0⟩ : Hd).cells.toArray 28) = v2' at *
    refine wpList_store_row rfl 28 (.tmp 5) (.tmp 10) rfl g3 (⟨a.1, List.replicate 32 0, 0, List.replicate 32 0⟩ : Hd).cells.toArray (by rfl) (by rfl) 28 _ hN0 (Seal.size_hd (⟨a.1, List.replicate 32 0, 0, List.replicate 32 0⟩ : Hd) (by simp) (by simp)) (by simp only [List.size_toArray]; rw [Seal.Hd.cells_length (⟨a.1, List.replicate 32 0, 0, List.replicate 32 0⟩ : Hd) (by simp) (by simp)]; rfl) (all_oneCell_toArray (Seal.Hd.one (⟨a.1, List.replicate 32 0, 0, List.replicate 32 0⟩ : Hd))) ?_
    simp only [Act.put, List.setIfInBounds_toArray, List.set_cons_zero, List.set_cons_succ]
    have hN : HdAt (v2'.setRow g3 (⟨a.1, List.replicate 32 0, 0, List.replicate 32 0⟩ : Hd).cells.toArray) g3 (⟨a.1, List.replicate 32 0, 0, List.replicate 32 0⟩ : Hd) := Blk.row hN0 _
    replace hS := hS.rowF (show _ ≠ g3 by omega) (⟨a.1, List.replicate 32 0, 0, List.replicate 32 0⟩ : Hd).cells.toArray
    replace hR := hR.rowF (show _ ≠ g3 by omega) (⟨a.1, List.replicate 32 0, 0, List.replicate 32 0⟩ : Hd).cells.toArray
    replace hU := hU.rowNew (show w1.heap.size ≤ g3 by omega) (⟨a.1, List.replicate 32 0, 0, List.replicate 32 0⟩ : Hd).cells.toArray
    clear hN0
    generalize v2'.setRow g3 (⟨a.1, List.replicate 32 0, 0, List.replicate 32 0⟩ : Hd).cells.toArray = v2 at *
    go_wp2_with fail
    refine (H2.out _ g s' hS (by omega)).mono ?_; rintro e v4 ⟨rfl, hS', hU'⟩
    replace hS := hS'
    replace hR := hR.upd hU' (by omega)
    replace hN := hN.upd hU' (by omega)
    have sz4 := hU'.size
    replace hU := hU.trans hU'
    clear hS' hU'
    unfold sumV
    go_wp2_with (refine stop_store 23 (.tmp 13) (.tmp 12) rfl ?_)
    refine ⟨?_⟩
    have hth : v4.there g3 1 ((b.1).map byteV).toArray.size := Blk.there hN 1 _ (by rw [Seal.Hd.cells_length _ (by simp) (by simp)]; simp [hz32])
    refine wpList_store_mid rfl 23 (.tmp 13) (.tmp 12) rfl g3 1 _ (by rfl) (by rfl) hth (size32.trans (by simp [hz32])) (by simp [byteV, Value.oneCell']) ?_
    simp only [Act.put, List.setIfInBounds_toArray, List.set_cons_zero, List.set_cons_succ]
    clear hth
    replace hS := hS.farCs (show _ ≠ g3 by omega) ((b.1).map byteV).toArray.toList 1
    replace hR := hR.farCs (show _ ≠ g3 by omega) ((b.1).map byteV).toArray.toList 1
    replace hN := hN.putRoot b.1 (by simp [hz32])
    replace hU : Upd _ w1 (v4.setCells g3 1 ((b.1).map byteV).toArray.toList) := upd_cells (show w1.heap.size ≤ g3 by omega) _ _ _ hU
    generalize (v4.setCells g3 1 ((b.1).map byteV).toArray.toList) = v5 at *
    go_wp2_with fail
    refine (H3.out _ g s' hS (by omega)).mono ?_; rintro e v6 ⟨rfl, hS', hU'⟩
    replace hS := hS'
    replace hR := hR.upd hU' (by omega)
    replace hN := hN.upd hU' (by omega)
    have sz6 := hU'.size
    replace hU := hU.trans hU'
    clear hS' hU'
    have fz0 := Blk.frozen hN 33
    have cc0 := hN.c33 hz32
    have lt0 := hN.lt
    go_wp2_with fail
    clear fz0 cc0 lt0
    replace hS := hS.farC (show _ ≠ g3 by omega) 33 (.int .i64 c.1)
    replace hR := hR.farC (show _ ≠ g3 by omega) 33 (.int .i64 c.1)
    replace hN := hN.clk hz32 c.1
    replace hU : Upd _ w1 (v6.setCell ⟨g3, 33, none⟩ (.int .i64 c.1)) := hU.setCell (.inr (show w1.heap.size ≤ g3 by omega)) _
    generalize (v6.setCell ⟨g3, 33, none⟩ (.int .i64 c.1)) = v7 at *
    refine (H4.out _ g s' hS (by omega)).mono ?_; rintro e v8 ⟨rfl, hS', hU'⟩
    replace hS := hS'
    replace hR := hR.upd hU' (by omega)
    replace hN := hN.upd hU' (by omega)
    have sz8 := hU'.size
    replace hU := hU.trans hU'
    clear hS' hU'
    unfold sumV
    go_wp2_with (refine stop_store 23 (.tmp 19) (.tmp 18) rfl ?_)
    refine ⟨?_⟩
    have hth : v8.there g3 34 ((d.1).map byteV).toArray.size := Blk.there hN 34 _ (by rw [Seal.Hd.cells_length _ hz32 (by simp)]; simp [hy32])
    refine wpList_store_mid rfl 23 (.tmp 19) (.tmp 18) rfl g3 34 _ (by rfl) (by rfl) hth (size32.trans (by simp [hy32])) (by simp [byteV, Value.oneCell']) ?_
    simp only [Act.put, List.setIfInBounds_toArray, List.set_cons_zero, List.set_cons_succ]
    clear hth
    replace hS := hS.farCs (show _ ≠ g3 by omega) ((d.1).map byteV).toArray.toList 34
    replace hR := hR.farCs (show _ ≠ g3 by omega) ((d.1).map byteV).toArray.toList 34
    replace hN := hN.putMac hz32 d.1 (by simp [hy32])
    replace hU : Upd _ w1 (v8.setCells g3 34 ((d.1).map byteV).toArray.toList) := upd_cells (show w1.heap.size ≤ g3 by omega) _ _ _ hU
    generalize (v8.setCells g3 34 ((d.1).map byteV).toArray.toList) = v9 at *
    rw [← Hv.out] at hN
    go_wp2_with fail
    refine (rfEnd_calls g s' _ _ hS (by omega)).mono ?_; rw [he]; rintro e v10 ⟨rfl, zz, hzz⟩
    have ed : Ext v9 v10 := by rw [hzz]; exact (Ext.refl _).drewN _
    clear hzz
    replace hS := hS.ext ed
    replace hR := hR.ext ed
    replace hN := hN.ext ed
    replace hU := hU.ext ed
    clear ed
    have hX : Ext w v10 := hEB.upd hU (Nat.le_of_lt hgw)
    have hsz := Seal.size_hd Seal.zH (by rfl) (by rfl)
    have hcl := Seal.Hd.cells_length Seal.zH (by rfl) (by rfl)
    have hone := all_oneCell_toArray (Seal.Hd.one Seal.zH)
    have Hcl := Lib.hid hcl; clear hcl
    go_wp2_with (refine stop_store 28 (.tmp 2) (.tmp 23) rfl ?_)
    refine ⟨?_⟩
    refine wpList_store_row rfl 28 (.tmp 2) (.tmp 23) rfl w.heap.size Seal.zH.cells.toArray (by rfl) (by rfl) 28 _ hR hsz (by simp only [List.size_toArray] <;> (try (rw [Hcl.out] <;> (try rfl)))) hone ?_
    simp only [Act.put, List.setIfInBounds_toArray, List.set_cons_zero, List.set_cons_succ]
    go_wp2_with fail
    (try simp only [Exit.inBlock, Exit.then])
    refine bodyPost_ret (res_two rfl _ _ w.heap.size 28 Seal.zH.cells.toArray _ rfl (Blk.row hR Seal.zH.cells.toArray) Try.underlying28 rfl hsz) rfl ?_
    exact ⟨rfl, hX.row (Nat.le_refl _) _⟩

end Go.Proofs.Ytcgnjdkennkheaa
