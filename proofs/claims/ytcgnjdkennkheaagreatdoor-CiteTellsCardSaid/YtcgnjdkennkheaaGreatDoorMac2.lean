/-
  The walks of (*mac.Maker).Sum, Right, Name; mac.Of and mac.Right.
-/
import Derived.Test.YtcgnjdkennkheaaGreatDoorMac
import Derived.Test.YtcgnjdkennkheaaGreatDoorUpd
set_option linter.unusedVariables false
set_option maxRecDepth 100000
set_option linter.unusedSimpArgs false
namespace Go.Proofs.YtcgnjdkennkheaaGreatDoor
open Go.RowKit
attribute [local go_sem] bs_size bs_toList2 bs_append bs_extract_end bs_extract_begin bs_get wrap64_b grow_cell grow_frozen

/-- A maker that is new. -/
def MakerNew (w : World) (m : Nat) : Prop := Blk w m 165 #[.pointer none, .pointer none]

set_option maxRecDepth 100000 in
theorem MSum_nil (A : Option Addr) (n cap : Nat) (w : World) : Calls Tryz.prog 119 #[.pointer none, .slice A n cap] w fun e w' => e = .returned (sumV (zerosB 32)) ∧ Ext w w' := by
  go_enter Tryz.func119, Tryz.ntmps119
  go_wp2_with (refine stop_store 28 (.tmp 4) (.tmp 13) rfl ?_)
  refine ⟨?_⟩
  change wpList _ _ _ _ _ (w.alloc (.cells ((zerosB 32).map byteV).toArray 28))
  have hvl : ((zerosB 32).map byteV).toArray.size = 32 := rfl
  refine wpList_store_row rfl 28 (.tmp 4) (.tmp 13) rfl w.heap.size ((zerosB 32).map byteV).toArray (by rfl) (by rfl) 28 _ (Blk.new w _ _) (size32.trans (by rw [hvl])) (by rfl) (by simp [byteV, Value.oneCell']) ?_
  simp only [Act.put, List.setIfInBounds_toArray, List.set_cons_zero, List.set_cons_succ]
  go_wp2_with fail
  exact bodyPost_ret (results_cell_row rfl _ _ w.heap.size 28 _ (0, 0) _ rfl (Blk.row (Blk.new w _ _) _) Tryz.underlying28 rfl (size32.trans (by rw [hvl]))) rfl ⟨rfl, ((Ext.refl w).alloc _).row (Nat.le_refl _) _⟩

set_option maxRecDepth 100000 in
set_option maxHeartbeats 1000000 in
theorem MSum_ok (l : List (List UInt8)) (A : Option Addr) (cap m : Nat) (w : World) (KW : Keys w) (key : List UInt8) (hM0 : MakerOk w m key) (hA : Rd w w.heap.size A (l.map strV)) (hn : l.length ≤ 9223372036854775807) (hs : (joinB l).length ≤ 4611686018427380000) :
    Calls Tryz.prog 119 #[.pointer (some ⟨m, 0, none⟩), .slice A l.length cap] w fun e w' => e = .returned (sumV (macOf key (joinB l))) ∧ Ext w w' := by
  obtain ⟨all, hall⟩ : ∃ all, all = joinB l := ⟨_, rfl⟩
  obtain ⟨mac, hmac⟩ : ∃ mac, mac = macOf key all := ⟨_, rfl⟩
  rw [← hall] at hs ⊢
  rw [← hmac]
  have Hall := Lib.hid hall; clear hall
  have Hmac0 := Lib.hid hmac; clear hmac
  obtain ⟨gi, go, hM, hI0, hO0⟩ := hM0
  go_enter Tryz.func119, Tryz.ntmps119
  go_wp2_with fail
  change Code.wp _ _ _ _ (w.alloc (.cells ((zerosB 32).map byteV).toArray 28))
  have hR0 : ArrB (w.alloc (.cells ((zerosB 32).map byteV).toArray 28)) w.heap.size 28 (zerosB 32) := Blk.new _ _ _
  have hE0 := (Ext.refl w).alloc (.cells ((zerosB 32).map byteV).toArray 28)
  generalize w.alloc (.cells ((zerosB 32).map byteV).toArray 28) = w0 at *
  have hM1 := Blk.below hM hE0 hM.lt
  have hI1 : HashAt w0 gi (xorB (padB key) 54) := Blk.below hI0 hE0 (Blk.lt hI0)
  have hO1 : HashAt w0 go (xorB (padB key) 92) := Blk.below hO0 hE0 (Blk.lt hO0)
  have hml := hM1.lt
  have c0 : w0.cell? ⟨m, 0, none⟩ = some (.pointer (some ⟨gi, 0, none⟩)) := Blk.cell hM1 0
  have c1 : w0.cell? ⟨m, 1, none⟩ = some (.pointer (some ⟨go, 0, none⟩)) := Blk.cell hM1 1
  clear hM hI0 hO0
  refine region_mix0 (by kernel_rfl) (by kernel_rfl) (fun x => ?_)
  repeat (first | (refine mix_quiet (by rfl) (by rfl) (fun K hK => ?_); go_big_quiet_op; refine hK _ ?_; clear hK K) | (refine mix_skip (by rfl) ?_; simp only [Act.put, List.setIfInBounds_toArray, List.set_cons_zero, List.set_cons_succ]))
  refine mix_nil ?_
  have hI : HashAt (grow w0 x) gi (xorB (padB key) 54) := Blk.grow x hI1
  have hO : HashAt (grow w0 x) go (xorB (padB key) 92) := Blk.grow x hO1
  have hR : ArrB (grow w0 x) w.heap.size 28 (zerosB 32) := Blk.grow x hR0
  have hE := hE0.trans (grow_ext x)
  clear hI1 hO1 hR0 hE0 hM1 c0 c1 hml
  go_wp2_with fail
  have hxi : (xorB (padB key) 54).length = 64 := by rw [xorB_length, padB_length]
  have hxo : (xorB (padB key) 92).length = 64 := by rw [xorB_length, padB_length]
  have hmac : mac = shaOf (xorB (padB key) 92 ++ shaOf (xorB (padB key) 54 ++ all)) := Hmac0.out
  have Hmac := Lib.hid hmac; clear hmac Hmac0
  generalize xorB (padB key) 54 = xi at *
  generalize xorB (padB key) 92 = xo at *
  refine (Copy_calls xi gi _ (.inl hI)).mono ?_; rintro e w3 ⟨rfl, hH, e3⟩
  have hO3 : HashAt w3 go xo := Blk.below hO e3 (Blk.lt hO)
  have hR3 : ArrB w3 w.heap.size 28 (zerosB 32) := Blk.below hR e3 hR.lt
  have hE3 := hE.trans e3
  have hlr := hR.lt
  have hlo := Blk.lt hO
  clear hI hO hR e3 hE
  generalize (grow w0 x).heap.size = gh at *
  have hH0 : HashOk w3 gh (xi ++ joinB (l.take 0)) := by simpa [joinB] using hH
  have hg0 : gh ≠ 0 := by have := KW.lt0; omega
  have Hxi := Lib.hid hxi; have Hxo := Lib.hid hxo
  clear hH hxi hxo
  go_wp2_with fail
  go_loopw [32] (fun v wr => ∃ k : Nat, k ≤ l.length ∧ v = .int .i64 (k : Int) ∧ HashOk wr gh (xi ++ joinB (l.take k)) ∧ HashAt wr go xo ∧ ArrB wr w.heap.size 28 (zerosB 32) ∧ Ext w wr) (fun v _ => l.length - (intOf v).toNat)
  case atStart => exact ⟨0, by omega, rfl, hH0, hO3, hR3, hE3⟩
  case round =>
    clear hH0 hO3 hR3 hE3
    obtain ⟨k, hk, rfl, hH, hO, hR, hE⟩ := hrel
    by_cases hlt : k < l.length
    · have hit : (k : Int) < (l.length : Int) := by omega
      obtain ⟨b, off, rfl, hb, hc⟩ := (hA.below hE (Nat.le_refl _)) (map_ne strV hlt)
      have hcell := hc k (strV l[k]) (by simp [hlt])
      clear hc
      unfold strV at hcell
      have hj := joinB_take l k hlt
      have Hj := Lib.hid hj
      have hjl := joinB_le l (k + 1)
      have hjs : (xi ++ joinB (l.take k)).length + (l[k]).length ≤ 4611686018427387904 := by rw [hj, List.length_append, ← Hall.out] at hjl; rw [List.length_append, Hxi.out]; omega
      clear hj hjl
      generalize l[k] = s at *
      generalize joinB (l.take k) = had at *
      go_wp2_with fail
      go_at_call 110
      refine (Write_calls s (xi ++ had) gh _ (KW.ext hE) hH hg0 hjs).mono ?_; rintro e w4 ⟨rfl, hH4, hU⟩
      have hO4 : HashAt w4 go xo := Blk.grown hO hU (by intro e; injection e with e; omega)
      have hR4 : ArrB w4 w.heap.size 28 (zerosB 32) := Blk.grown hR hU (by intro e; injection e with e; omega)
      have hE4 : Ext w w4 := hE.upd hU (by omega)
      clear hR hE hH hU hO
      rw [List.append_assoc] at hH4
      go_wp2_with fail
      go_roundw
      case rel => exact ⟨k + 1, by omega, by go_num, by rw [Hj.out]; exact .inl hH4, hO4, hR4, hE4⟩
      case measure => simp [intOf]; omega
    · obtain rfl : k = l.length := by omega
      rw [List.take_length, ← Hall.out] at hH
      have hsx : (xi ++ all).length ≤ 4611686018427387904 := by rw [List.length_append, Hxi.out]; omega
      go_wp2_with fail
      go_at_call 131
      refine (Copy_calls xo go _ (.inl hO)).mono ?_; rintro e w4 ⟨rfl, hP, e4⟩
      have hH4 := hH.ext e4
      have hR4 : ArrB w4 w.heap.size 28 (zerosB 32) := Blk.below hR e4 hR.lt
      have hE4 := hE.trans e4
      have hlp := hH.lt
      clear hH hR hE e4 hO
      generalize wr.heap.size = gp at *
      go_wp2_with fail
      go_at_call 111
      refine (Sum_calls (xi ++ all) gh _ (KW.ext hE4) hH4 hsx).mono ?_; rintro e w5 ⟨rfl, e5⟩
      have hP5 := hP.ext e5
      have hR5 : ArrB w5 w.heap.size 28 (zerosB 32) := Blk.below hR4 e5 hR4.lt
      have hE5 := hE4.trans e5
      clear hP hR4 hE4 e5 hH4
      have hdl := shaOf_length (xi ++ all)
      generalize shaOf (xi ++ all) = d at *
      go_wp2_with fail
      go_at_call 75
      refine (Bytes_calls d hdl _).mono ?_; rintro e w6 ⟨rfl, e6⟩
      have hP6 := hP5.ext e6
      have hR6 : ArrB w6 w.heap.size 28 (zerosB 32) := Blk.below hR5 e6 hR5.lt
      have hE6 := hE5.trans e6
      have Hdl := Lib.hid hdl
      clear hP5 hR5 hE5 e6 hdl
      go_wp2_with fail
      go_at_call 110
      refine (Write_calls d xo gp _ (KW.ext hE6) hP6 (by omega) (by rw [Hxo.out, Hdl.out]; omega)).mono ?_; rintro e w7 ⟨rfl, hP7, hU⟩
      have hR7 : ArrB w7 w.heap.size 28 (zerosB 32) := Blk.grown hR6 hU (by intro e; injection e with e; omega)
      have hE7 : Ext w w7 := hE6.upd hU (by omega)
      clear hP6 hR6 hE6 hU
      have hxd : (xo ++ d).length ≤ 4611686018427387904 := by rw [List.length_append, Hxo.out, Hdl.out]; omega
      go_wp2_with fail
      go_at_call 111
      refine (Sum_calls (xo ++ d) gp _ (KW.ext hE7) (.inl hP7) hxd).mono ?_; rintro e w8 ⟨rfl, e8⟩
      have hR8 : ArrB w8 w.heap.size 28 (zerosB 32) := Blk.below hR7 e8 hR7.lt
      have hE8 := hE7.trans e8
      clear hP7 hR7 hE7 e8
      rw [← Hmac.out]
      have hml : (mac.map byteV).toArray.size = 32 := by rw [Hmac.out]; simp [shaOf_length]
      unfold sumV
      go_wp2_with (refine stop_store 28 (.tmp 4) (.tmp 48) rfl ?_)
      refine ⟨?_⟩
      refine wpList_store_row rfl 28 (.tmp 4) (.tmp 48) rfl w.heap.size _ (by rfl) (by rfl) 28 _ hR8 (size32.trans (by rw [hml])) (by rw [hml]; simp [zerosB]) (by simp [byteV, Value.oneCell']) ?_
      simp only [Act.put, List.setIfInBounds_toArray, List.set_cons_zero, List.set_cons_succ]
      go_wp2_with fail
      exact bodyPost_ret (results_cell_row rfl _ _ w.heap.size 28 _ (0, 0) _ rfl (Blk.row hR8 _) Tryz.underlying28 rfl (size32.trans (by rw [hml]))) rfl ⟨rfl, hE8.row (Nat.le_refl _) _⟩

set_option maxRecDepth 100000 in
set_option maxHeartbeats 1000000 in
theorem MSum_new (l : List (List UInt8)) (A : Option Addr) (cap m : Nat) (w : World) (KW : Keys w) (hM : MakerNew w m) (hA : Rd w w.heap.size A (l.map strV)) (hn : l.length ≤ 9223372036854775807) (hs : (joinB l).length ≤ 4611686018427380000) :
    Calls Tryz.prog 119 #[.pointer (some ⟨m, 0, none⟩), .slice A l.length cap] w fun e w' => e = .returned (sumV (macOf [] (joinB l))) ∧ Ext w w' := by
  obtain ⟨all, hall⟩ : ∃ all, all = joinB l := ⟨_, rfl⟩
  obtain ⟨mac, hmac⟩ : ∃ mac, mac = macOf [] all := ⟨_, rfl⟩
  rw [← hall] at hs ⊢
  rw [← hmac]
  have Hall := Lib.hid hall; clear hall
  have Hmac0 := Lib.hid hmac; clear hmac
  go_enter Tryz.func119, Tryz.ntmps119
  go_wp2_with fail
  change Code.wp _ _ _ _ (w.alloc (.cells ((zerosB 32).map byteV).toArray 28))
  have hR0 : ArrB (w.alloc (.cells ((zerosB 32).map byteV).toArray 28)) w.heap.size 28 (zerosB 32) := Blk.new _ _ _
  have hE0 := (Ext.refl w).alloc (.cells ((zerosB 32).map byteV).toArray 28)
  generalize w.alloc (.cells ((zerosB 32).map byteV).toArray 28) = w0 at *
  have hM1 := Blk.below hM hE0 hM.lt
  have hml := hM1.lt
  have c0 : w0.cell? ⟨m, 0, none⟩ = some (.pointer none) := Blk.cell hM1 0
  have c1 : w0.cell? ⟨m, 1, none⟩ = some (.pointer none) := Blk.cell hM1 1
  clear hM
  refine region_mix0 (by kernel_rfl) (by kernel_rfl) (fun x => ?_)
  repeat (first | (refine mix_quiet (by rfl) (by rfl) (fun K hK => ?_); go_big_quiet_op; refine hK _ ?_; clear hK K) | (refine mix_skip (by rfl) ?_; simp only [Act.put, List.setIfInBounds_toArray, List.set_cons_zero, List.set_cons_succ]))
  refine mix_nil ?_
  have hR1 : ArrB (grow w0 x) w.heap.size 28 (zerosB 32) := Blk.grow x hR0
  have hE1 := hE0.trans (grow_ext x)
  clear hR0 hE0 hM1 c0 c1 hml
  go_wp2_with fail
  refine (begun_calls [] (by simp) _ (KW.ext hE1)).mono ?_; rintro e w2 ⟨gi, go, rfl, hI, hO, e2⟩
  have hR : ArrB w2 w.heap.size 28 (zerosB 32) := Blk.below hR1 e2 hR1.lt
  have hE := hE1.trans e2
  clear hR1 hE1 e2
  go_wp2_with fail
  have hxi : (xorB (padB []) 54).length = 64 := by rw [xorB_length, padB_length]
  have hxo : (xorB (padB []) 92).length = 64 := by rw [xorB_length, padB_length]
  have hmac : mac = shaOf (xorB (padB []) 92 ++ shaOf (xorB (padB []) 54 ++ all)) := Hmac0.out
  have Hmac := Lib.hid hmac; clear hmac Hmac0
  generalize xorB (padB []) 54 = xi at *
  generalize xorB (padB []) 92 = xo at *
  refine (Copy_calls xi gi _ (.inl hI)).mono ?_; rintro e w3 ⟨rfl, hH, e3⟩
  have hO3 : HashAt w3 go xo := Blk.below hO e3 (Blk.lt hO)
  have hR3 : ArrB w3 w.heap.size 28 (zerosB 32) := Blk.below hR e3 hR.lt
  have hE3 := hE.trans e3
  have hlr := hR.lt
  have hlo := Blk.lt hO
  clear hI hO hR e3 hE
  generalize w2.heap.size = gh at *
  have hH0 : HashOk w3 gh (xi ++ joinB (l.take 0)) := by simpa [joinB] using hH
  have hg0 : gh ≠ 0 := by have := KW.lt0; omega
  have Hxi := Lib.hid hxi; have Hxo := Lib.hid hxo
  clear hH hxi hxo
  go_wp2_with fail
  go_loopw [32] (fun v wr => ∃ k : Nat, k ≤ l.length ∧ v = .int .i64 (k : Int) ∧ HashOk wr gh (xi ++ joinB (l.take k)) ∧ HashAt wr go xo ∧ ArrB wr w.heap.size 28 (zerosB 32) ∧ Ext w wr) (fun v _ => l.length - (intOf v).toNat)
  case atStart => exact ⟨0, by omega, rfl, hH0, hO3, hR3, hE3⟩
  case round =>
    clear hH0 hO3 hR3 hE3
    obtain ⟨k, hk, rfl, hH, hO, hR, hE⟩ := hrel
    by_cases hlt : k < l.length
    · have hit : (k : Int) < (l.length : Int) := by omega
      obtain ⟨b, off, rfl, hb, hc⟩ := (hA.below hE (Nat.le_refl _)) (map_ne strV hlt)
      have hcell := hc k (strV l[k]) (by simp [hlt])
      clear hc
      unfold strV at hcell
      have hj := joinB_take l k hlt
      have Hj := Lib.hid hj
      have hjl := joinB_le l (k + 1)
      have hjs : (xi ++ joinB (l.take k)).length + (l[k]).length ≤ 4611686018427387904 := by rw [hj, List.length_append, ← Hall.out] at hjl; rw [List.length_append, Hxi.out]; omega
      clear hj hjl
      generalize l[k] = s at *
      generalize joinB (l.take k) = had at *
      go_wp2_with fail
      go_at_call 110
      refine (Write_calls s (xi ++ had) gh _ (KW.ext hE) hH hg0 hjs).mono ?_; rintro e w4 ⟨rfl, hH4, hU⟩
      have hO4 : HashAt w4 go xo := Blk.grown hO hU (by intro e; injection e with e; omega)
      have hR4 : ArrB w4 w.heap.size 28 (zerosB 32) := Blk.grown hR hU (by intro e; injection e with e; omega)
      have hE4 : Ext w w4 := hE.upd hU (by omega)
      clear hR hE hH hU hO
      rw [List.append_assoc] at hH4
      go_wp2_with fail
      go_roundw
      case rel => exact ⟨k + 1, by omega, by go_num, by rw [Hj.out]; exact .inl hH4, hO4, hR4, hE4⟩
      case measure => simp [intOf]; omega
    · obtain rfl : k = l.length := by omega
      rw [List.take_length, ← Hall.out] at hH
      have hsx : (xi ++ all).length ≤ 4611686018427387904 := by rw [List.length_append, Hxi.out]; omega
      go_wp2_with fail
      go_at_call 131
      refine (Copy_calls xo go _ (.inl hO)).mono ?_; rintro e w4 ⟨rfl, hP, e4⟩
      have hH4 := hH.ext e4
      have hR4 : ArrB w4 w.heap.size 28 (zerosB 32) := Blk.below hR e4 hR.lt
      have hE4 := hE.trans e4
      have hlp := hH.lt
      clear hH hR hE e4 hO
      generalize wr.heap.size = gp at *
      go_wp2_with fail
      go_at_call 111
      refine (Sum_calls (xi ++ all) gh _ (KW.ext hE4) hH4 hsx).mono ?_; rintro e w5 ⟨rfl, e5⟩
      have hP5 := hP.ext e5
      have hR5 : ArrB w5 w.heap.size 28 (zerosB 32) := Blk.below hR4 e5 hR4.lt
      have hE5 := hE4.trans e5
      clear hP hR4 hE4 e5 hH4
      have hdl := shaOf_length (xi ++ all)
      generalize shaOf (xi ++ all) = d at *
      go_wp2_with fail
      go_at_call 75
      refine (Bytes_calls d hdl _).mono ?_; rintro e w6 ⟨rfl, e6⟩
      have hP6 := hP5.ext e6
      have hR6 : ArrB w6 w.heap.size 28 (zerosB 32) := Blk.below hR5 e6 hR5.lt
      have hE6 := hE5.trans e6
      have Hdl := Lib.hid hdl
      clear hP5 hR5 hE5 e6 hdl
      go_wp2_with fail
      go_at_call 110
      refine (Write_calls d xo gp _ (KW.ext hE6) hP6 (by omega) (by rw [Hxo.out, Hdl.out]; omega)).mono ?_; rintro e w7 ⟨rfl, hP7, hU⟩
      have hR7 : ArrB w7 w.heap.size 28 (zerosB 32) := Blk.grown hR6 hU (by intro e; injection e with e; omega)
      have hE7 : Ext w w7 := hE6.upd hU (by omega)
      clear hP6 hR6 hE6 hU
      have hxd : (xo ++ d).length ≤ 4611686018427387904 := by rw [List.length_append, Hxo.out, Hdl.out]; omega
      go_wp2_with fail
      go_at_call 111
      refine (Sum_calls (xo ++ d) gp _ (KW.ext hE7) (.inl hP7) hxd).mono ?_; rintro e w8 ⟨rfl, e8⟩
      have hR8 : ArrB w8 w.heap.size 28 (zerosB 32) := Blk.below hR7 e8 hR7.lt
      have hE8 := hE7.trans e8
      clear hP7 hR7 hE7 e8
      rw [← Hmac.out]
      have hml : (mac.map byteV).toArray.size = 32 := by rw [Hmac.out]; simp [shaOf_length]
      unfold sumV
      go_wp2_with (refine stop_store 28 (.tmp 4) (.tmp 48) rfl ?_)
      refine ⟨?_⟩
      refine wpList_store_row rfl 28 (.tmp 4) (.tmp 48) rfl w.heap.size _ (by rfl) (by rfl) 28 _ hR8 (size32.trans (by rw [hml])) (by rw [hml]; simp [zerosB]) (by simp [byteV, Value.oneCell']) ?_
      simp only [Act.put, List.setIfInBounds_toArray, List.set_cons_zero, List.set_cons_succ]
      go_wp2_with fail
      exact bodyPost_ret (results_cell_row rfl _ _ w.heap.size 28 _ (0, 0) _ rfl (Blk.row hR8 _) Tryz.underlying28 rfl (size32.trans (by rw [hml]))) rfl ⟨rfl, hE8.row (Nat.le_refl _) _⟩

end Go.Proofs.YtcgnjdkennkheaaGreatDoor
