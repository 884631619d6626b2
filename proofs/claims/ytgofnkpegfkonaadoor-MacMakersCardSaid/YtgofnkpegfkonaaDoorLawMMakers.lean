/-
  scriniumlaw03.MacMakers: a maker makes its key's sums, again and again. No condition.
-/
import Derived.Test.YtgofnkpegfkonaaDoorMacA
import Derived.Test.YtgofnkpegfkonaaDoorFew2
import Derived.Deep.DeepCutAuto
set_option linter.unusedVariables false
set_option linter.unusedSimpArgs false
namespace Go.Proofs.YtgofnkpegfkonaaDoor.macMakers
open Go.ChangeShapes Go.WideShapes Go.ChangeAt Go.RowKit
attribute [local go_sem] bs_size bs_toList2 bs_append bs_extract_end bs_extract_begin bs_get wrap64_b grow_cell grow_frozen

def nameT : List UInt8 := [110, 97, 109, 101]
theorem xor_one_ne (x : UInt8) : x ^^^ 1 ≠ x := by
  intro h
  have h1 := congrArg (fun y => x ^^^ y) h
  simp only [← UInt8.xor_assoc, UInt8.xor_self, UInt8.zero_xor] at h1
  exact absurd h1 (by decide)
theorem set_xor_ne (l : List UInt8) (k : Nat) (h : k < l.length) : l.set k (l[k] ^^^ 1) ≠ l := by
  intro e
  have h1 := congrArg (fun z => z[k]?) e
  simp only [List.getElem?_set_self h, List.getElem?_eq_getElem h, Option.some.injEq] at h1
  exact xor_one_ne _ h1


set_option maxRecDepth 100000 in
set_option maxHeartbeats 1000000 in
theorem walk (key : List UInt8) (B : Nat) (A : Option Addr) (cap : Nat) (l : List (List UInt8)) (hk0 : key.length ≤ 9223372036854775807) (w : World) (KW : Keys w) (h : Rd w B A (l.map strV)) (hB : B ≤ w.heap.size) (hl : l.length ≤ 9223372036854775807) (he : ∀ s ∈ l, s.length ≤ 9223372036854775807) :
    Calls Tryd.prog 13 #[.string (bs key), .slice A l.length cap] w fun e w' => e = .returned (.bool true) ∧ Ext w w' := by
  go_enter Tryd.func13, Tryd.ntmps13
  go_wp2_with fail
  refine (awake03_calls _ KW).mono ?_; rintro e w1 ⟨rfl, e1⟩
  go_wp2_with fail
  refine (short03_calls key 200 _ hk0 (by omega)).mono ?_; rintro e w2 ⟨rfl, rfl⟩
  have hk : (key.take 200).length ≤ 200 := by simp; omega
  generalize key.take 200 = key at *
  go_wp2_with fail
  refine (MNew_calls key (by omega) _ (KW.ext e1)).mono ?_; rintro e w2 ⟨m, rfl, hgm, hM, e2⟩
  have hE0 := e1.trans e2
  clear e1 e2 hk0
  go_wp2_with fail
  go_loopw [7] (fun v wr => ∃ k : Nat, k ≤ l.length ∧ k ≤ 8 ∧ v = .int .i64 (k : Int) ∧ MakerOk wr m key ∧ Ext w wr) (fun v _ => l.length - (intOf v).toNat)
  case atStart => exact ⟨0, by omega, by omega, rfl, hM, hE0⟩
  case round =>
    clear hM hE0 hgm
    obtain ⟨k, hkl, hk8, rfl, hM, hE⟩ := hrel
    by_cases hlt : k < l.length ∧ k < 8
    · obtain ⟨hlt, hlt8⟩ := hlt
      have hit : (k : Int) < (l.length : Int) := by omega
      obtain ⟨b, off, rfl, hbB, hc⟩ := (h.below hE hB) (map_ne strV hlt)
      have hcell : wr.cell? ⟨b, off + k, none⟩ = some (.string (bs l[k])) := hc k _ (by rw [List.getElem?_map, List.getElem?_eq_getElem hlt]; rfl)
      have hlk := he _ (List.getElem_mem hlt)
      clear hc
      go_wp2_with fail
      refine (short03_calls l[k] 100 _ hlk (by omega)).mono ?_; rintro e w3 ⟨rfl, rfl⟩
      have hs : (l[k].take 100).length ≤ 100 := by simp; omega
      generalize l[k].take 100 = s at *
      have hj : joinB [s] = s := by simp [joinB]
      have hj2 : joinB [s, s] = s ++ s := by simp [joinB]
      have hj3 : joinB [s ++ s] = s ++ s := by simp [joinB]
      have hRd : Rd (wr.alloc (.cells #[.string (bs s)] 9)) (wr.alloc (.cells #[.string (bs s)] 9)).heap.size (some ⟨wr.heap.size, 0, none⟩) ([s].map strV) := Blk.rd (Blk.new wr _ _)
      have hE1 := hE.alloc (.cells #[.string (bs s)] 9)
      have hM1 := hM.ext ((Ext.refl wr).alloc (.cells #[.string (bs s)] 9))
      clear hM hE hcell hlk
      go_wp2_with fail
      refine (MSum_ok [s] _ 1 m _ (KW.ext hE1) key hM1 hRd (by simp) (by rw [hj]; omega)).mono ?_; rw [hj]; rintro e w2 ⟨rfl, e2⟩
      have hM2 := hM1.ext e2
      have hE2 := hE1.trans e2
      have hml := macOf_length key s
      have hml2 := macOf_length key (s ++ s)
      obtain ⟨mac, hmac⟩ : ∃ mac, mac = macOf key s := ⟨_, rfl⟩
      obtain ⟨mac2, hmac2⟩ : ∃ mac2, mac2 = macOf key (s ++ s) := ⟨_, rfl⟩
      rw [← hmac] at hml ⊢
      rw [← hmac2] at hml2
      have Hmac := Lib.hid hmac; have Hmac2 := Lib.hid hmac2
      clear hM1 hE1 e2 hmac hmac2 hRd
      have hmz : (mac.map byteV).toArray.size = 32 := by simp [hml]
      unfold sumV
      go_wp2_with (refine stop_store 33 (.tmp 9) (.tmp 35) rfl ?_)
      refine ⟨?_⟩
      change wpList _ _ _ _ _ (w2.alloc (.cells ((zerosB 32).map byteV).toArray 33))
      refine wpList_store_row rfl 33 (.tmp 9) (.tmp 35) rfl w2.heap.size _ (by rfl) (by rfl) 33 _ (Blk.new w2 _ _) (size32.trans (by rw [hmz])) (by rw [hmz]; rfl) (by simp [byteV, Value.oneCell']) ?_
      simp only [Act.put, List.setIfInBounds_toArray, List.set_cons_zero, List.set_cons_succ]
      have hX : ArrB ((w2.alloc (.cells ((zerosB 32).map byteV).toArray 33)).setRow w2.heap.size (mac.map byteV).toArray) w2.heap.size 33 mac := Blk.row (Blk.new w2 33 ((zerosB 32).map byteV).toArray) (mac.map byteV).toArray
      have hE : Ext w ((w2.alloc (.cells ((zerosB 32).map byteV).toArray 33)).setRow w2.heap.size (mac.map byteV).toArray) := (hE2.alloc _).row hE2.size _
      have hM := hM2.ext (((Ext.refl w2).alloc (.cells ((zerosB 32).map byteV).toArray 33)).row (Nat.le_refl _) (mac.map byteV).toArray)
      have hF : Ext w2 ((w2.alloc (.cells ((zerosB 32).map byteV).toArray 33)).setRow w2.heap.size (mac.map byteV).toArray) := ((Ext.refl w2).alloc (.cells ((zerosB 32).map byteV).toArray 33)).row (Nat.le_refl _) (mac.map byteV).toArray
      have hga : w.heap.size ≤ w2.heap.size := hE2.size
      have hma : m < w2.heap.size := hM2.lt
      clear hE2
      generalize hw4 : (w2.alloc (.cells ((zerosB 32).map byteV).toArray 33)).setRow w2.heap.size (mac.map byteV).toArray = w4 at *
      clear hw4
      have hKs : ∀ x : More w4, Keys (grow w4 x) := fun x => KW.ext (hE.trans (grow_ext x))
      have hMs : ∀ x : More w4, MakerOk (grow w4 x) m key := fun x => hM.ext (grow_ext x)
      have hgw := guard_sum
      have heq1 := fun w : World => eq_sum mac mac hml hml w
      have heq2 := fun w : World => eq_sum mac2 mac2 hml2 hml2 w
      go_wp2_with fail
      go_upto_region 11 with fail
      go_cut [63] (fun s63 wx => s63 = .bool false ∧ Ext w4 wx)
      case first =>
        refine region_plan 28 (Plan.run [0, 1, 2, 3, 4, 5, 6, 7, 8, 9, 10, 11, 12, 13, 14, 15, 16, 17, 20, 21, 22, 23] (.two 18 24 (Plan.run [] (.two 19 24 (Plan.run [24, 25, 26, 27] .nil) (Plan.run [19, 25, 26, 27] .nil))) (Plan.run [18, 19, 25, 26, 27] .nil))) (by kernel_rfl) (by kernel_rfl) (fun y0 => ?_); simp only [Plan.run, List.drop_succ_cons, List.drop_zero, List.drop_nil]
        refine plan_row (by simp only [List.getElem?_toArray, List.getElem?_cons_zero, List.getElem?_cons_succ]; rfl) (by rfl) (by rfl) 33 (.tmp 9) rfl w2.heap.size (by rfl) _ _ _ hX Tryd.underlying33 rfl (size32.trans (by simp [hml])) ?_
        simp only [Act.put, List.setIfInBounds_toArray, List.set_cons_zero, List.set_cons_succ]
        iterate 2 (first | (refine plan_quiet (by simp only [List.getElem?_toArray, List.getElem?_cons_zero, List.getElem?_cons_succ]; rfl) (by rfl) (by rfl) (fun K hK => ?_); go_big_quiet_op; refine hK _ ?_; clear hK K) | (refine plan_skip (by simp only [List.getElem?_toArray, List.getElem?_cons_zero, List.getElem?_cons_succ]; rfl) (by rfl) ?_; simp only [Act.put, List.setIfInBounds_toArray, List.set_cons_zero, List.set_cons_succ]))
        refine plan_one ?_
        (refine plan_loud (by simp only [List.getElem?_toArray, List.getElem?_cons_zero, List.getElem?_cons_succ]; rfl) (by rfl) (by rfl) (fun K E hK => ?_); go_big_op)
        obtain ⟨y1, hy1⟩ := more_of ((grow_ext y0).alloc (.cells #[.string (bs s)] 9))
        have h3 : Rd ((grow w4 y0).alloc (.cells #[.string (bs s)] 9)) ((grow w4 y0).alloc (.cells #[.string (bs s)] 9)).heap.size (some ⟨(grow w4 y0).heap.size, 0, none⟩) ([s].map strV) := Blk.rd (Blk.new _ _ _)
        rw [hy1] at h3 ⊢
        clear hy1; generalize (grow w4 y0).heap.size = g3 at *
        refine hK _ _ ⟨_, rfl⟩ ?_; clear hK K E
        refine plan_one ?_
        (refine plan_loud (by simp only [List.getElem?_toArray, List.getElem?_cons_zero, List.getElem?_cons_succ]; rfl) (by rfl) (by rfl) (fun K E hK => ?_); go_big_op)
        refine (MOf_calls key (by omega) [s] _ 1 (grow w4 y1) (hKs _) h3 (by simp) (by rw [hj]; omega)).mono ?_; rw [hj, ← Hmac.out]; unfold sumV; rintro e w3 ⟨rfl, hd⟩
        obtain ⟨y2, rfl⟩ := more_ext y1 hd; clear hd
        refine hK _ _ ⟨_, rfl⟩ ?_; clear hK K E
        clear h3
        iterate 3 (first | (refine plan_quiet (by simp only [List.getElem?_toArray, List.getElem?_cons_zero, List.getElem?_cons_succ]; rfl) (by rfl) (by rfl) (fun K hK => ?_); go_big_quiet_op; refine hK _ ?_; clear hK K) | (refine plan_skip (by simp only [List.getElem?_toArray, List.getElem?_cons_zero, List.getElem?_cons_succ]; rfl) (by rfl) ?_; simp only [Act.put, List.setIfInBounds_toArray, List.set_cons_zero, List.set_cons_succ]))
        refine plan_row (by simp only [List.getElem?_toArray, List.getElem?_cons_zero, List.getElem?_cons_succ]; rfl) (by rfl) (by rfl) 33 (.tmp 9) rfl w2.heap.size (by rfl) _ _ _ hX Tryd.underlying33 rfl (size32.trans (by simp [hml])) ?_
        simp only [Act.put, List.setIfInBounds_toArray, List.set_cons_zero, List.set_cons_succ]
        iterate 1 (first | (refine plan_quiet (by simp only [List.getElem?_toArray, List.getElem?_cons_zero, List.getElem?_cons_succ]; rfl) (by rfl) (by rfl) (fun K hK => ?_); go_big_quiet_op; refine hK _ ?_; clear hK K) | (refine plan_skip (by simp only [List.getElem?_toArray, List.getElem?_cons_zero, List.getElem?_cons_succ]; rfl) (by rfl) ?_; simp only [Act.put, List.setIfInBounds_toArray, List.set_cons_zero, List.set_cons_succ]))
        refine plan_one ?_
        (refine plan_loud (by simp only [List.getElem?_toArray, List.getElem?_cons_zero, List.getElem?_cons_succ]; rfl) (by rfl) (by rfl) (fun K E hK => ?_); go_big_op)
        obtain ⟨y3, hy3⟩ := more_of ((grow_ext y2).alloc (.cells #[.string (bs s)] 9))
        have h10 : Rd ((grow w4 y2).alloc (.cells #[.string (bs s)] 9)) ((grow w4 y2).alloc (.cells #[.string (bs s)] 9)).heap.size (some ⟨(grow w4 y2).heap.size, 0, none⟩) ([s].map strV) := Blk.rd (Blk.new _ _ _)
        rw [hy3] at h10 ⊢
        clear hy3; generalize (grow w4 y2).heap.size = g10 at *
        refine hK _ _ ⟨_, rfl⟩ ?_; clear hK K E
        refine plan_one ?_
        (refine plan_loud (by simp only [List.getElem?_toArray, List.getElem?_cons_zero, List.getElem?_cons_succ]; rfl) (by rfl) (by rfl) (fun K E hK => ?_); go_big_op)
        change Calls _ _ #[_, sumV mac, _] _ _
        refine (MRight_ok mac hml [s] _ 1 m (grow w4 y3) (hKs _) key (hMs _) h10 (by simp) (by rw [hj]; omega)).mono ?_; rw [hj, ← Hmac.out, show decide (mac = mac) = true from by simp]; rintro e w3 ⟨rfl, hd⟩
        obtain ⟨y4, rfl⟩ := more_ext y3 hd; clear hd
        refine hK _ _ ⟨_, rfl⟩ ?_; clear hK K E
        clear h10
        iterate 10 (first | (refine plan_quiet (by simp only [List.getElem?_toArray, List.getElem?_cons_zero, List.getElem?_cons_succ]; rfl) (by rfl) (by rfl) (fun K hK => ?_); go_big_quiet_op; refine hK _ ?_; clear hK K) | (refine plan_skip (by simp only [List.getElem?_toArray, List.getElem?_cons_zero, List.getElem?_cons_succ]; rfl) (by rfl) ?_; simp only [Act.put, List.setIfInBounds_toArray, List.set_cons_zero, List.set_cons_succ]))
        refine plan_two ?_ ?_
        · (refine plan_loud (by simp only [List.getElem?_toArray, List.getElem?_cons_zero, List.getElem?_cons_succ]; rfl) (by rfl) (by rfl) (fun K E hK => ?_); go_big_op)
          obtain ⟨y5, hy5⟩ := more_of ((grow_ext y4).alloc (.cells #[.string (bs s), .string (bs s)] 9))
          have h18 : Rd ((grow w4 y4).alloc (.cells #[.string (bs s), .string (bs s)] 9)) ((grow w4 y4).alloc (.cells #[.string (bs s), .string (bs s)] 9)).heap.size (some ⟨(grow w4 y4).heap.size, 0, none⟩) ([s, s].map strV) := Blk.rd (Blk.new _ _ _)
          rw [hy5] at h18 ⊢
          clear hy5; generalize (grow w4 y4).heap.size = g18 at *
          refine hK _ _ ⟨_, rfl⟩ ?_; clear hK K E
          refine plan_two ?_ ?_
          · (refine plan_loud (by simp only [List.getElem?_toArray, List.getElem?_cons_zero, List.getElem?_cons_succ]; rfl) (by rfl) (by rfl) (fun K E hK => ?_); go_big_op)
            refine (MSum_ok [s, s] _ 2 m (grow w4 y5) (hKs _) key (hMs _) h18 (by simp) (by rw [hj2]; simp; omega)).mono ?_; rw [hj2, ← Hmac2.out]; unfold sumV; rintro e w3 ⟨rfl, hd⟩
            obtain ⟨y6, rfl⟩ := more_ext y5 hd; clear hd
            refine hK _ _ ⟨_, rfl⟩ ?_; clear hK K E
            clear h18
            refine plan_one ?_
            (refine plan_loud (by simp only [List.getElem?_toArray, List.getElem?_cons_zero, List.getElem?_cons_succ]; rfl) (by rfl) (by rfl) (fun K E hK => ?_); go_big_op)
            obtain ⟨y7, hy7⟩ := more_of ((grow_ext y6).alloc (.cells #[.string (bs (s ++ s))] 9))
            have h24 : Rd ((grow w4 y6).alloc (.cells #[.string (bs (s ++ s))] 9)) ((grow w4 y6).alloc (.cells #[.string (bs (s ++ s))] 9)).heap.size (some ⟨(grow w4 y6).heap.size, 0, none⟩) ([s ++ s].map strV) := Blk.rd (Blk.new _ _ _)
            rw [hy7] at h24 ⊢
            clear hy7; generalize (grow w4 y6).heap.size = g24 at *
            refine hK _ _ ⟨_, rfl⟩ ?_; clear hK K E
            refine plan_one ?_
            (refine plan_loud (by simp only [List.getElem?_toArray, List.getElem?_cons_zero, List.getElem?_cons_succ]; rfl) (by rfl) (by rfl) (fun K E hK => ?_); go_big_op)
            refine (MOf_calls key (by omega) [s ++ s] _ 1 (grow w4 y7) (hKs _) h24 (by simp) (by rw [hj3]; simp; omega)).mono ?_; rw [hj3, ← Hmac2.out]; unfold sumV; rintro e w3 ⟨rfl, hd⟩
            obtain ⟨y8, rfl⟩ := more_ext y7 hd; clear hd
            refine hK _ _ ⟨_, rfl⟩ ?_; clear hK K E
            clear h24
            iterate 2 (first | (refine plan_quiet (by simp only [List.getElem?_toArray, List.getElem?_cons_zero, List.getElem?_cons_succ]; rfl) (by rfl) (by rfl) (fun K hK => ?_); go_big_quiet_op; refine hK _ ?_; clear hK K) | (refine plan_skip (by simp only [List.getElem?_toArray, List.getElem?_cons_zero, List.getElem?_cons_succ]; rfl) (by rfl) ?_; simp only [Act.put, List.setIfInBounds_toArray, List.set_cons_zero, List.set_cons_succ]))
            refine plan_nil ?_
            go_wp2_with fail
            go_meet
            exact ⟨rfl, grow_ext _⟩
          · (refine plan_loud (by simp only [List.getElem?_toArray, List.getElem?_cons_zero, List.getElem?_cons_succ]; rfl) (by rfl) (by rfl) (fun K E hK => ?_); go_big_op)
            obtain ⟨y9, hy9⟩ := more_of ((grow_ext y5).alloc (.cells #[.string (bs (s ++ s))] 9))
            have h24 : Rd ((grow w4 y5).alloc (.cells #[.string (bs (s ++ s))] 9)) ((grow w4 y5).alloc (.cells #[.string (bs (s ++ s))] 9)).heap.size (some ⟨(grow w4 y5).heap.size, 0, none⟩) ([s ++ s].map strV) := Blk.rd (Blk.new _ _ _)
            replace h18 := (h18.below ((Ext.refl _).alloc (.cells #[.string (bs (s ++ s))] 9)) (Nat.le_refl _)).more ((Ext.refl _).alloc (.cells #[.string (bs (s ++ s))] 9)).size
            rw [hy9] at h24 h18 ⊢
            clear hy9; generalize (grow w4 y5).heap.size = g24 at *
            refine hK _ _ ⟨_, rfl⟩ ?_; clear hK K E
            refine plan_one ?_
            (refine plan_loud (by simp only [List.getElem?_toArray, List.getElem?_cons_zero, List.getElem?_cons_succ]; rfl) (by rfl) (by rfl) (fun K E hK => ?_); go_big_op)
            refine (MSum_ok [s, s] _ 2 m (grow w4 y9) (hKs _) key (hMs _) h18 (by simp) (by rw [hj2]; simp; omega)).mono ?_; rw [hj2, ← Hmac2.out]; unfold sumV; rintro e w3 ⟨rfl, hd⟩
            replace h24 := (h24.below hd (Nat.le_refl _)).more hd.size
            obtain ⟨y10, rfl⟩ := more_ext y9 hd; clear hd
            refine hK _ _ ⟨_, rfl⟩ ?_; clear hK K E
            clear h18
            refine plan_one ?_
            (refine plan_loud (by simp only [List.getElem?_toArray, List.getElem?_cons_zero, List.getElem?_cons_succ]; rfl) (by rfl) (by rfl) (fun K E hK => ?_); go_big_op)
            refine (MOf_calls key (by omega) [s ++ s] _ 1 (grow w4 y10) (hKs _) h24 (by simp) (by rw [hj3]; simp; omega)).mono ?_; rw [hj3, ← Hmac2.out]; unfold sumV; rintro e w3 ⟨rfl, hd⟩
            obtain ⟨y11, rfl⟩ := more_ext y10 hd; clear hd
            refine hK _ _ ⟨_, rfl⟩ ?_; clear hK K E
            clear h24
            iterate 2 (first | (refine plan_quiet (by simp only [List.getElem?_toArray, List.getElem?_cons_zero, List.getElem?_cons_succ]; rfl) (by rfl) (by rfl) (fun K hK => ?_); go_big_quiet_op; refine hK _ ?_; clear hK K) | (refine plan_skip (by simp only [List.getElem?_toArray, List.getElem?_cons_zero, List.getElem?_cons_succ]; rfl) (by rfl) ?_; simp only [Act.put, List.setIfInBounds_toArray, List.set_cons_zero, List.set_cons_succ]))
            refine plan_nil ?_
            go_wp2_with fail
            go_meet
            exact ⟨rfl, grow_ext _⟩
        · (refine plan_loud (by simp only [List.getElem?_toArray, List.getElem?_cons_zero, List.getElem?_cons_succ]; rfl) (by rfl) (by rfl) (fun K E hK => ?_); go_big_op)
          obtain ⟨y12, hy12⟩ := more_of ((grow_ext y4).alloc (.cells #[.string (bs (s ++ s))] 9))
          have h24 : Rd ((grow w4 y4).alloc (.cells #[.string (bs (s ++ s))] 9)) ((grow w4 y4).alloc (.cells #[.string (bs (s ++ s))] 9)).heap.size (some ⟨(grow w4 y4).heap.size, 0, none⟩) ([s ++ s].map strV) := Blk.rd (Blk.new _ _ _)
          rw [hy12] at h24 ⊢
          clear hy12; generalize (grow w4 y4).heap.size = g24 at *
          refine hK _ _ ⟨_, rfl⟩ ?_; clear hK K E
          refine plan_one ?_
          (refine plan_loud (by simp only [List.getElem?_toArray, List.getElem?_cons_zero, List.getElem?_cons_succ]; rfl) (by rfl) (by rfl) (fun K E hK => ?_); go_big_op)
          obtain ⟨y13, hy13⟩ := more_of ((grow_ext y12).alloc (.cells #[.string (bs s), .string (bs s)] 9))
          have h18 : Rd ((grow w4 y12).alloc (.cells #[.string (bs s), .string (bs s)] 9)) ((grow w4 y12).alloc (.cells #[.string (bs s), .string (bs s)] 9)).heap.size (some ⟨(grow w4 y12).heap.size, 0, none⟩) ([s, s].map strV) := Blk.rd (Blk.new _ _ _)
          replace h24 := (h24.below ((Ext.refl _).alloc (.cells #[.string (bs s), .string (bs s)] 9)) (Nat.le_refl _)).more ((Ext.refl _).alloc (.cells #[.string (bs s), .string (bs s)] 9)).size
          rw [hy13] at h18 h24 ⊢
          clear hy13; generalize (grow w4 y12).heap.size = g18 at *
          refine hK _ _ ⟨_, rfl⟩ ?_; clear hK K E
          refine plan_one ?_
          (refine plan_loud (by simp only [List.getElem?_toArray, List.getElem?_cons_zero, List.getElem?_cons_succ]; rfl) (by rfl) (by rfl) (fun K E hK => ?_); go_big_op)
          refine (MSum_ok [s, s] _ 2 m (grow w4 y13) (hKs _) key (hMs _) h18 (by simp) (by rw [hj2]; simp; omega)).mono ?_; rw [hj2, ← Hmac2.out]; unfold sumV; rintro e w3 ⟨rfl, hd⟩
          replace h24 := (h24.below hd (Nat.le_refl _)).more hd.size
          obtain ⟨y14, rfl⟩ := more_ext y13 hd; clear hd
          refine hK _ _ ⟨_, rfl⟩ ?_; clear hK K E
          clear h18
          refine plan_one ?_
          (refine plan_loud (by simp only [List.getElem?_toArray, List.getElem?_cons_zero, List.getElem?_cons_succ]; rfl) (by rfl) (by rfl) (fun K E hK => ?_); go_big_op)
          refine (MOf_calls key (by omega) [s ++ s] _ 1 (grow w4 y14) (hKs _) h24 (by simp) (by rw [hj3]; simp; omega)).mono ?_; rw [hj3, ← Hmac2.out]; unfold sumV; rintro e w3 ⟨rfl, hd⟩
          obtain ⟨y15, rfl⟩ := more_ext y14 hd; clear hd
          refine hK _ _ ⟨_, rfl⟩ ?_; clear hK K E
          clear h24
          iterate 2 (first | (refine plan_quiet (by simp only [List.getElem?_toArray, List.getElem?_cons_zero, List.getElem?_cons_succ]; rfl) (by rfl) (by rfl) (fun K hK => ?_); go_big_quiet_op; refine hK _ ?_; clear hK K) | (refine plan_skip (by simp only [List.getElem?_toArray, List.getElem?_cons_zero, List.getElem?_cons_succ]; rfl) (by rfl) ?_; simp only [Act.put, List.setIfInBounds_toArray, List.set_cons_zero, List.set_cons_succ]))
          refine plan_nil ?_
          go_wp2_with fail
          go_meet
          exact ⟨rfl, grow_ext _⟩

      case rest =>
        obtain ⟨rfl, e5⟩ := hcut
        have hX5 : ArrB wc w2.heap.size 33 mac := Blk.below hX e5 hX.lt
        have hM5 := hM.ext e5
        have hE5 := hE.trans e5
        have hk32 : k < mac.length := by omega
        have hk32i : (k : Int) < 32 := by omega
        have hk32n : k < 32 := by omega
        have hcx : wc.cell? ⟨w2.heap.size, k, none⟩ = some (.int .u8 (mac[k].toNat : Int)) := hX5.cell k hk32
        have hfr := Blk.frozen hX5 k
        have hgl := hX5.lt
        have hne := set_xor_ne mac k hk32
        have hsl : (mac.set k (mac[k] ^^^ 1)).length = 32 := by simp [hml]
        have hxe : (((mac[k] ^^^ 1).toNat : Nat) : Int) = ((mac[k].toNat ^^^ 1 : Nat) : Int) := by rw [UInt8.toNat_xor]; rfl
        have hx1 : bits .xor .u8 (mac[k].toNat : Int) 1 = ((mac[k].toNat ^^^ 1 : Nat) : Int) := by rw [← hxe]; exact byte_xor mac[k] 1
        have Hxe := Lib.hid hxe; clear hxe
        have hRd : ∀ w : World, Rd (w.alloc (.cells #[.string (bs s)] 9)) (w.alloc (.cells #[.string (bs s)] 9)).heap.size (some ⟨w.heap.size, 0, none⟩) ([s].map strV) := fun w => Blk.rd (Blk.new w _ _)
        clear hX hM hE hKs hMs heq1 heq2
        go_wp2_with (refine stop_load 33 (.tmp 9) rfl ?_)
        refine ⟨?_⟩
        have hX6 : ArrB (wc.setCell ⟨w2.heap.size, k, none⟩ (.int .u8 ((mac[k].toNat ^^^ 1 : Nat) : Int))) w2.heap.size 33 (mac.set k (mac[k] ^^^ 1)) := by
          rw [← Hxe.out]
          exact ArrB.set hX5 k _
        have hM6 : MakerOk (wc.setCell ⟨w2.heap.size, k, none⟩ (.int .u8 ((mac[k].toNat ^^^ 1 : Nat) : Int))) m key := hM2.ext ((hF.trans e5).setCell (Nat.le_refl _) _)
        have hE6 := hE5.setCell (p := ⟨w2.heap.size, k, none⟩) hga (.int .u8 ((mac[k].toNat ^^^ 1 : Nat) : Int))
        have hdf : decide (mac.set k (mac[k] ^^^ 1) = mac) = false := by simp [hne]
        have hslz : ((mac.set k (mac[k] ^^^ 1)).map byteV).toArray.size = 32 := by rw [List.size_toArray, List.length_map]; exact hsl
        clear hX5 hM5 hE5 hcx hfr hgl hne
        refine wpList_load_row rfl 33 (.tmp 9) rfl w2.heap.size (by rfl) 33 _ (0, 0) _ hX6 Tryd.underlying33 rfl (size32.trans (by rw [hslz])) ?_
        simp only [Act.put, List.setIfInBounds_toArray, List.set_cons_zero, List.set_cons_succ]
        generalize wc.setCell ⟨w2.heap.size, k, none⟩ (.int .u8 ((mac[k].toNat ^^^ 1 : Nat) : Int)) = w6 at *
        clear hx1
        generalize mac.set k (mac[k] ^^^ 1) = z at *
        go_wp2_with fail
        change Calls _ _ #[_, sumV z, _] _ _
        refine (MRight_ok z hsl [s] _ 1 m _ (KW.ext (hE6.alloc _)) key (hM6.ext ((Ext.refl _).alloc _)) (hRd _) (by simp) (by rw [hj]; omega)).mono ?_; rw [hj, ← Hmac.out, hdf]; rintro e w7 ⟨rfl, e7⟩
        have hM8 := (hM6.ext ((Ext.refl w6).alloc (.cells #[.string (bs s)] 9))).ext e7
        have hE8 := (hE6.alloc (.cells #[.string (bs s)] 9)).trans e7
        clear hM6 hE6 hX6 e7
        go_wp2_with fail
        go_roundw
        case rel => exact ⟨k + 1, by omega, by omega, by go_num, hM8, hE8⟩
        case measure => simp [intOf]; omega
    · have hj : joinB [nameT] = nameT := by simp [joinB]
      have hml := macOf_length key nameT
      have hgw := guard_sum
      have heq1 := fun w : World => eq_sum (macOf key nameT) (macOf key nameT) hml hml w
      rcases (show (¬ k < l.length) ∨ (k < l.length ∧ ¬ k < 8) from by omega) with hn | ⟨hp, hn⟩
      all_goals
        go_wp2_with fail
        refine (MName_calls key m _ (KW.ext hE) hM).mono ?_; rintro e w2 ⟨rfl, e2⟩
        rw [show ([110, 97, 109, 101] : List UInt8) = nameT from rfl]
        unfold sumV
        go_wp2_with fail
        change Calls _ _ _ (w2.alloc (.cells #[.string (bs nameT)] 9)) _
        have hRd : Rd (w2.alloc (.cells #[.string (bs nameT)] 9)) (w2.alloc (.cells #[.string (bs nameT)] 9)).heap.size (some ⟨w2.heap.size, 0, none⟩) ([nameT].map strV) := Blk.rd (Blk.new w2 _ _)
        refine (MOf_calls key (by omega) [nameT] _ 1 _ (KW.ext ((hE.trans e2).alloc _)) hRd (by simp) (by rw [hj]; decide)).mono ?_; rw [hj]; rintro e w3 ⟨rfl, e3⟩
        unfold sumV
        go_wp2_with fail
        go_ret
        exact ⟨rfl, ((hE.trans e2).alloc _).trans e3⟩

set_option maxRecDepth 100000 in
theorem contract (H : Type) (enc : TypeId × Value → H) (W : World) (base : Nat) (args : Array Value) (ds gs : List (DataW H)) (before : List MemPlace)
    (hval0 : ∀ (j : Nat) t v, Tryd.f13.params[j]? = some t → args[j]? = some v → Value.okWide Tryd.prog W .any base t v)
    (hW : DataW.Whole enc Tryd.prog Tryd.f13.params.toList Rows.macMakersSpec.vars false W args.toList ds gs before) (hL : laidMetH Tryd.prog Rows.macMakersRow.laid W) :
    Calls Tryd.prog 13 args W fun e W' => ∃ v, e = .returned v ∧ Rows.macMakersSpec.post enc Tryd.prog Tryd.f13 false true false false W args v W' := by
  have K : Keys W := keys_of hL
  have hval : ∀ (j : Nat) t v, Tryd.f13.params[j]? = some t → args[j]? = some v → Value.okWide Tryd.prog W .any base t v := hval0
  have hW' := hW
  obtain ⟨p, q, hA0, hV, rfl, hfz, hnd⟩ := hW
  have hA : DataW.TrodAll enc Tryd.prog W 0 (fun _ => true) true Tryd.f13.params.toList args.toList ds p := hA0
  rw [Tryd.params13] at hA hval
  obtain ⟨v0, vs0, d0, ds0, p0, q0, hargs, rfl, rfl, hx0, r0⟩ := trodAll_cons hA
  obtain ⟨v1, vs1, d1, ds1, p1, q1, rfl, rfl, rfl, hx1, r1⟩ := trodAll_cons r0
  obtain ⟨rfl, rfl, rfl⟩ := trodAll_nil r1
  obtain rfl : args = #[v0, v1] := by cases args; simp_all
  obtain ⟨rfl, rfl⟩ := trodVars_none hV
  obtain ⟨key, rfl, hkey⟩ := op_str (hval 0 9 v0 rfl rfl) (tr_of hx0)
  obtain ⟨Al, cl, l, rfl, hlr, hlc, hlm, hle⟩ := op_strs (hval 1 43 v1 rfl rfl) (tr_of hx1)
  refine (walk key W.heap.size Al cl l hkey W K hlr (Nat.le_refl _) (by omega) hle).mono fun e W' ⟨he, hg⟩ => ?_
  subst he
  exact ⟨_, rfl, law_post hW' rfl rfl (by kernel_rfl) rfl rfl rfl hg⟩

theorem laid_met (os : Os) : laidMet Tryd.prog Rows.macMakersRow.laid ((keysWorld os).forCall (fun _ _ => 0) ⟨#[], #[.string .empty, .slice none 0 0], []⟩).memory :=
  laidMet_of_run' 8 (by kernel_rfl) (by kernel_rfl)
theorem reads (os : Os) {H : Type} (enc : TypeId × Value → H) : ∃ x, DataW.whole enc Tryd.prog ((keysWorld os).forCall (fun _ _ => 0) ⟨#[], #[.string .empty, .slice none 0 0], []⟩).memory Tryd.f13.params.toList Rows.macMakersSpec.vars false (#[.string .empty, .slice none 0 0] : Array Value).toList 8 = some x :=
  Option.isSome_iff_exists.1 (by kernel_rfl)
set_option maxRecDepth 100000 in
theorem lifted (os : Os) (started : os.Started) (H : Type) (enc : TypeId × Value → H) (F : Stop.Interp) :
    ReturnsInHanded {} Tryd.checked os 13 .any ((OpenSpec.ofChange Rows.macMakersSpec).preRow enc Tryd.prog Tryd.f13 Rows.macMakersRow.domain false Rows.macMakersRow.laid) (((OpenSpec.ofChange Rows.macMakersSpec).at F).post enc Tryd.prog Tryd.f13 false true false false) := by
  obtain ⟨x, hx⟩ := reads os enc
  refine returnsInHanded_of_row (C := Tryd.checked) (s := OpenSpec.ofChange Rows.macMakersSpec) own_ started (by kernel_rfl) Tryd.func13
    (witness_row_at (enc := enc) (C := Tryd.checked) false (keysWorld os) #[.string .empty, .slice none 0 0] rfl (by kernel_rfl) (by kernel_rfl) (by kernel_rfl)
      (OpenSpec.preRow_of_cond 8 hx rfl (fun k hk => by cases hk) (by kernel_rfl) (laid_met os))) ?_
  intro W base args ds gs before hval hW _ _ _ hL _ _
  exact contract H enc W base args ds gs before hval hW hL

theorem said : Rows.MacMakersSaid :=
  OpenClaim.holds_of_cond 13 Tryd.f13 rfl rfl rfl rfl rfl rfl rfl ⟨rfl, rfl, rfl, rfl, rfl⟩ rfl rfl rfl rfl rfl (by kernel_rfl) Tryd.func13 (by kernel_rfl)
    (of_decide_eq_true (by kernel_rfl)) (by unfold Func.isWrapper; first | (rw [if_pos (by decide +kernel)]; kernel_rfl) | (rw [if_neg (by decide +kernel)]; exact ⟨rfl, rfl⟩))
    (fun os started H enc _ F => by rw [OpenClaim.pre_eq_preRow]; exact lifted os started H enc F)
theorem plain (f : FuncId) (fn : Func) (hf : Tryd.pinned.checked.prog.funcNamed "scrinium/scriniumlaw03.MacMakers" = some f) (hfn : Tryd.pinned.checked.prog.funcs[f]? = some fn) :
    false = Tryd.pinned.checked.prog.looks [] ∧ ∀ (j : Nat) t, fn.params[j]? = some t → Tryd.pinned.checked.prog.wantsStandIn t = false := by
  obtain rfl : f = 13 := Option.some.inj ((show Tryd.prog.funcNamed "scrinium/scriniumlaw03.MacMakers" = some 13 by kernel_rfl).symm.trans hf) |>.symm
  obtain rfl : fn = Tryd.f13 := (Option.some.inj (Tryd.func13.symm.trans hfn)).symm
  refine ⟨by kernel_rfl, fun j t ht => ?_⟩
  rw [Tryd.params13] at ht
  have hm : t ∈ ([9, 43] : List TypeId) := by simpa using Array.mem_of_getElem? ht
  have hall : (([9, 43] : List TypeId).all fun u => !Tryd.prog.wantsStandIn u) = true := by kernel_rfl
  exact (show Tryd.prog.wantsStandIn t = false by simpa using List.all_eq_true.1 hall t hm)
theorem proved : Rows.MacMakersCardSaid :=
  Claim7.holds_tied_plain_at .later [] _ _ _ _ said (fun _ h => by cases h) (by kernel_rfl) (fun _ h => by cases h) macMakers_row_tie rfl ⟨rfl, rfl⟩ (by kernel_rfl) rfl plain (by kernel_rfl)

end Go.Proofs.YtgofnkpegfkonaaDoor.macMakers
