/-
  scriniumlaw16.SealRight: no condition.
-/
import Derived.Test.YtcgnjdkennkheaaDoorSealA
import Derived.Test.YtcgnjdkennkheaaDoorOpSeal
import Derived.Deep.DeepCutAuto
import Derived.Test.YtcgnjdkennkheaaDoorLaw
set_option linter.unusedVariables false
set_option maxRecDepth 100000
set_option linter.unusedSimpArgs false
namespace Go.Proofs.YtcgnjdkennkheaaDoor.sealRight
open Go.ChangeShapes Go.WideShapes Go.ChangeAt Go.RowKit
open Seal (Fz Hd St)
attribute [local go_sem] bs_size bs_toList2 bs_append bs_extract_end bs_extract_begin bs_get wrap64_b grow_cell grow_frozen

/-! ### Plain law -/
theorem turned_length (a b : List UInt8) (h : a.length = b.length) : (List.zipWith (· ^^^ ·) a b).length = a.length := by simp [h]
theorem turned_get (a b : List UInt8) (i : Nat) (ha : i < a.length) (hb : i < b.length) : (List.zipWith (· ^^^ ·) a b)[i]'(by simp; omega) = a[i] ^^^ b[i] := by simp
/-- The first i of a turned by b. -/
def turnTo (a b : List UInt8) (i : Nat) : List UInt8 := (List.zipWith (· ^^^ ·) a b).take i ++ a.drop i
theorem turnTo_zero (a b : List UInt8) : turnTo a b 0 = a := by simp [turnTo]
theorem turnTo_length (a b : List UInt8) (h : a.length = b.length) (i : Nat) : (turnTo a b i).length = a.length := by simp [turnTo, h]; omega
theorem turnTo_get (a b : List UInt8) (h : a.length = b.length) (i : Nat) (hi : i < a.length) : (turnTo a b i)[i]'(by rw [turnTo_length _ _ h]; exact hi) = a[i] := by
  unfold turnTo
  rw [List.getElem_append_right (by simp; omega)]
  simp only [List.getElem_drop, List.length_take, List.length_zipWith]
  congr 1
  omega
theorem turnTo_succ (a b : List UInt8) (h : a.length = b.length) (i : Nat) (hi : i < a.length) : turnTo a b (i + 1) = (turnTo a b i).set i (a[i] ^^^ b[i]'(by omega)) := by
  unfold turnTo
  have hl : ((List.zipWith (· ^^^ ·) a b).take i).length = i := by simp; omega
  rw [List.set_append_right _ _ (by omega), List.drop_eq_getElem_cons hi, hl, Nat.sub_self, List.set_cons_zero, List.take_succ_eq_append_getElem (by simp; omega), turned_get a b i hi (by omega), List.append_assoc]
  rfl
theorem hd_right (key : List UInt8) (s c : Int) (r : List UInt8) : (Hd.sign key s r c).rightB key = decide (Hd.may (Hd.sign key s r c)) ∧ ((Hd.sign key s r c).outE == 0) = decide (Hd.may (Hd.sign key s r c)) ∧
    ∀ z, Hd.rightB key ⟨s, r, c, z⟩ = (decide (Hd.may (Hd.sign key s r c)) && decide ((⟨s, r, c, z⟩ : Hd) = Hd.sign key s r c)) := by
  by_cases hm : Hd.may (Hd.sign key s r c)
  · have hm2 : Hd.may ⟨s, r, c, List.replicate 32 0⟩ := hm
    have hmac : (Hd.sign key s r c).mac = macOf key (Hd.says ⟨s, r, c, []⟩) := by
      show Seal.signB _ _ _ = _
      rw [(Seal.Hd.out_ok _ hm2).1, (Seal.Hd.out_ok _ hm2).2.2]
      rfl
    refine ⟨?_, ?_, fun z => ?_⟩
    · unfold Seal.Hd.rightB
      rw [Bool.eq_iff_iff, decide_eq_true_eq, decide_eq_true_eq]
      exact ⟨fun h => h.1, fun h => ⟨h, hmac⟩⟩
    · rw [(Seal.Hd.out_ok _ hm).2.2]
      simp [hm]
    · unfold Seal.Hd.rightB
      rw [Bool.eq_iff_iff, decide_eq_true_eq, Bool.and_eq_true, decide_eq_true_eq, decide_eq_true_eq]
      constructor
      · rintro ⟨_, h⟩
        refine ⟨hm, ?_⟩
        have : z = (Hd.sign key s r c).mac := by rw [hmac]; exact h
        rw [this]
        rfl
      · rintro ⟨_, h⟩
        refine ⟨hm, ?_⟩
        have : z = (Hd.sign key s r c).mac := by rw [← h]
        rw [this, hmac]
        rfl
  · refine ⟨?_, ?_, fun z => ?_⟩
    · unfold Seal.Hd.rightB
      rw [Bool.eq_iff_iff, decide_eq_true_eq, decide_eq_true_eq]
      exact ⟨fun h => h.1, fun h => absurd h hm⟩
    · rw [(Seal.Hd.out_no _ hm).2.2]
      simp [hm]
    · unfold Seal.Hd.rightB
      rw [Bool.eq_iff_iff, decide_eq_true_eq, Bool.and_eq_true, decide_eq_true_eq, decide_eq_true_eq]
      exact ⟨fun h => absurd h.1 hm, fun h => absurd h.1 hm⟩
theorem st_right (key : List UInt8) (f : Fz) (c : Int) : (St.sign key f c).rightB key = decide (St.may (St.sign key f c)) ∧ ((St.sign key f c).outE == 0) = decide (St.may (St.sign key f c)) ∧
    ∀ z, St.rightB key ⟨f, c, z⟩ = (decide (St.may (St.sign key f c)) && decide ((⟨f, c, z⟩ : St) = St.sign key f c)) := by
  by_cases hm : St.may (St.sign key f c)
  · have hm2 : St.may ⟨f, c, List.replicate 32 0⟩ := hm
    have hmac : (St.sign key f c).mac = macOf key (St.says ⟨f, c, []⟩) := by
      show Seal.signB _ _ _ = _
      rw [(Seal.St.out_ok _ hm2).1, (Seal.St.out_ok _ hm2).2.2]
      rfl
    refine ⟨?_, ?_, fun z => ?_⟩
    · unfold Seal.St.rightB
      rw [Bool.eq_iff_iff, decide_eq_true_eq, decide_eq_true_eq]
      exact ⟨fun h => h.1, fun h => ⟨h, hmac⟩⟩
    · rw [(Seal.St.out_ok _ hm).2.2]
      simp [hm]
    · unfold Seal.St.rightB
      rw [Bool.eq_iff_iff, decide_eq_true_eq, Bool.and_eq_true, decide_eq_true_eq, decide_eq_true_eq]
      constructor
      · rintro ⟨_, h⟩
        refine ⟨hm, ?_⟩
        have : z = (St.sign key f c).mac := by rw [hmac]; exact h
        rw [this]
        rfl
      · rintro ⟨_, h⟩
        refine ⟨hm, ?_⟩
        have : z = (St.sign key f c).mac := by rw [← h]
        rw [this, hmac]
        rfl
  · refine ⟨?_, ?_, fun z => ?_⟩
    · unfold Seal.St.rightB
      rw [Bool.eq_iff_iff, decide_eq_true_eq, decide_eq_true_eq]
      exact ⟨fun h => h.1, fun h => absurd h hm⟩
    · rw [(Seal.St.out_no _ hm).2.2]
      simp [hm]
    · unfold Seal.St.rightB
      rw [Bool.eq_iff_iff, decide_eq_true_eq, Bool.and_eq_true, decide_eq_true_eq, decide_eq_true_eq]
      exact ⟨fun h => absurd h.1 hm, fun h => absurd h.1 hm⟩
theorem cell_mid {w : World} {g : Nat} {t : TypeId} {pre post : List Value} {s : List UInt8} (h : Blk w g t (pre ++ (hcells s ++ post)).toArray) (o : Nat) (ho : o = pre.length) (i : Nat) (hi : i < s.length) : w.cell? ⟨g, o + i, none⟩ = some (.int .u8 (s[i].toNat : Int)) :=
  Blk.range h o ho i _ (by simp [hcells, hi, byteV])
theorem set_mid {w : World} {g : Nat} {t : TypeId} {pre post : List Value} {s : List UInt8} (h : Blk w g t (pre ++ (hcells s ++ post)).toArray) (o : Nat) (ho : o = pre.length) (i : Nat) (hi : i < s.length) (c : UInt8) : Blk (w.setCell ⟨g, o + i, none⟩ (.int .u8 (c.toNat : Int))) g t (pre ++ (hcells (s.set i c) ++ post)).toArray := by
  have := Blk.set_ h (o + i) (.int .u8 (c.toNat : Int))
  subst ho
  rw [List.setIfInBounds_toArray, List.set_append_right _ _ (by omega), Nat.add_sub_cancel_left, List.set_append_left _ _ (by rw [hcells_length]; exact hi)] at this
  have e : (hcells s).set i (.int .u8 (c.toNat : Int)) = hcells (s.set i c) := by
    unfold hcells
    rw [List.map_set]
    rfl
  rwa [e] at this
theorem hd_pre (f : Hd) : f.cells = ([Value.int .i64 f.size] ++ (hcells f.root ++ [Value.int .i64 f.clock])) ++ (hcells f.mac ++ []) := by simp [Seal.Hd.cells]
theorem st_pre (f : St) : f.cells = (f.fz.cells ++ [Value.int .i64 f.at_]) ++ (hcells f.mac ++ []) := by simp [Seal.St.cells]

/-! ### The walk -/
set_option maxHeartbeats 16000000 in
theorem walk (key : List UInt8) (x : Hd) (y : St) (u : List UInt8) (hkey : key.length ≤ 9223372036854775807) (fx : x.fit) (fy : y.fit) (hu : u.length = 32) (w : World) (KW : Keys w) :
    Calls Tryd.prog 5 #[.string (bs key), .agg (x.cells ++ y.cells).toArray, sumV u] w fun e w' => e = .returned (.bool true) ∧ Ext w w' := by
  unfold sumV
  have hX : Blk ((w.alloc (.cells (x.cells ++ y.cells).toArray 47)).alloc (.cells (u.map byteV).toArray 23)) w.heap.size 47 (x.cells ++ y.cells).toArray := Blk.alloc (Blk.new w _ _) _
  have hU : ArrB ((w.alloc (.cells (x.cells ++ y.cells).toArray 47)).alloc (.cells (u.map byteV).toArray 23)) (w.heap.size + 1) 23 u := by
    have := Blk.new (w.alloc (.cells (x.cells ++ y.cells).toArray 47)) 23 (u.map byteV).toArray
    rw [alloc_size] at this
    exact this
  have hE : Ext w ((w.alloc (.cells (x.cells ++ y.cells).toArray 47)).alloc (.cells (u.map byteV).toArray 23)) := ((Ext.refl w).alloc _).alloc _
  obtain ⟨f1, f2, f3, f4⟩ := fx
  obtain ⟨⟨-, -, s0⟩, s1, s2⟩ := fy
  have hxl := Seal.Hd.cells_length x f3 f4
  have hkt : (key.take 100).length ≤ 100 := by rw [List.length_take]; omega
  obtain ⟨ky, hky⟩ : ∃ ky, ky = key.take 100 := ⟨_, rfl⟩
  have hk : ky.length ≤ 4611686018427387904 := by rw [hky]; omega
  have Hky := Lib.hid hky; clear hky hkt
  have pa := hd_right ky x.size x.clock x.root
  have pb := st_right ky y.fz y.at_
  obtain ⟨a, ha⟩ : ∃ a, a = Hd.sign ky x.size x.root x.clock := ⟨_, rfl⟩
  obtain ⟨b, hb⟩ : ∃ b, b = St.sign ky y.fz y.at_ := ⟨_, rfl⟩
  rw [← ha] at pa
  rw [← hb] at pb
  have azs : a.size = x.size := by rw [ha]; rfl
  have ar : a.root = x.root := by rw [ha]; rfl
  have ac : a.clock = x.clock := by rw [ha]; rfl
  have bf : b.fz = y.fz := by rw [hb]; rfl
  have ba : b.at_ = y.at_ := by rw [hb]; rfl
  have a1 : a.root.length = 32 := by rw [ha]; exact f3
  have a2 : a.mac.length = 32 := by rw [ha]; exact Seal.signB_length _ _ _
  have b1 : b.fz.root.length = 32 := by rw [hb]; exact s0
  have b2 : b.mac.length = 32 := by rw [hb]; exact Seal.signB_length _ _ _
  rw [← azs, ← ar, ← ac] at pa
  rw [← bf, ← ba] at pb
  obtain ⟨p, hp⟩ : ∃ p, p = decide a.may := ⟨_, rfl⟩
  obtain ⟨q, hq⟩ : ∃ q, q = decide b.may := ⟨_, rfl⟩
  rw [← hp] at pa
  rw [← hq] at pb
  obtain ⟨pa1, pa2, pa3⟩ := pa
  obtain ⟨pb1, pb2, pb3⟩ := pb
  obtain ⟨ea, hea⟩ : ∃ ea, ea = a.outE := ⟨_, rfl⟩
  obtain ⟨eb, heb⟩ : ∃ eb, eb = b.outE := ⟨_, rfl⟩
  rw [← hea] at pa2
  rw [← heb] at pb2
  have hgh := guard_hd
  have hgs := guard_st
  have Ha := Lib.hid ha; have Hb := Lib.hid hb; have Hea := Lib.hid hea; have Heb := Lib.hid heb; have Pa1 := Lib.hid pa1; have Pb1 := Lib.hid pb1; have Pa3 := Lib.hid pa3; have Pb3 := Lib.hid pb3
  clear ha hb hp hq hea heb pa1 pb1 pa3 pb3 azs ar ac bf ba
  go_enter Tryd.func5, Tryd.ntmps5
  go_wp2_with fail
  change Calls _ _ _ ((w.alloc (.cells (x.cells ++ y.cells).toArray 47)).alloc (.cells (u.map byteV).toArray 23)) _
  generalize ((w.alloc (.cells (x.cells ++ y.cells).toArray 47)).alloc (.cells (u.map byteV).toArray 23)) = w0 at *
  refine (awake16_calls _ (KW.ext hE)).mono ?_; rintro e v1 ⟨rfl, e2⟩
  replace hX := Blk.below hX e2 (Blk.lt hX)
  replace hU := Blk.below hU e2 (Blk.lt hU)
  replace hE := hE.trans e2
  clear e2
  go_wp2_with fail
  refine (short16_calls key 100 _ hkey (by omega)).mono ?_; rw [← Hky.out]; rintro e w' ⟨rfl, rfl⟩
  have hX2 := hX
  have c0 : v1.cell? ⟨w.heap.size, 0, none⟩ = some (.int .i64 x.size) := Blk.cell hX 0
  have hroot : v1.rangeAt w.heap.size 1 (hcells x.root) := by
    have h := hX
    unfold Seal.Hd.cells at h
    simp only [List.append_assoc] at h
    exact Blk.range h 1 rfl
  have c1 : v1.cell? ⟨w.heap.size, 33, none⟩ = some (.int .i64 x.clock) := by
    have h := hX
    unfold Seal.Hd.cells at h
    simp only [List.append_assoc] at h
    rw [app3] at h
    exact Blk.range h 33 (by simp [hcells_length, f3]) 0 _ rfl
  have hxb := Blk.lt hX
  clear hX2
  go_wp2_with (refine stop_load 23 (.tmp 25) rfl ?_)
  refine ⟨?_⟩
  refine wpList_load_mid rfl 23 (.tmp 25) rfl w.heap.size (1) (by rfl) (hcells x.root) _ hroot Tryd.underlying23 rfl (size32l _ f3) ?_
  simp only [Act.put, List.setIfInBounds_toArray, List.set_cons_zero, List.set_cons_succ]
  go_wp2_with fail
  clear c0 c1 hroot hxb
  change Calls _ _ #[.string (bs ky), .int .i64 x.size, sumV x.root, .int .i64 x.clock] _ _
  refine (Head_calls ky hk x.size x.clock x.root f3 _ (KW.ext hE)).mono ?_; rw [← Ha.out]; rintro e v3 ⟨rfl, e4⟩
  replace hX := Blk.below hX e4 (Blk.lt hX)
  replace hU := Blk.below hU e4 (Blk.lt hU)
  replace hE := hE.trans e4
  clear e4
  unfold Seal.Hd.v
  go_wp2_with (refine stop_store 25 (.tmp 8) (.tmp 30) rfl ?_)
  refine ⟨?_⟩
  change wpList _ _ _ _ _ (v3.alloc (.cells (⟨0, List.replicate 32 0, 0, List.replicate 32 0⟩ : Hd).cells.toArray 25))
  have hA0 := Blk.new v3 25 (⟨0, List.replicate 32 0, 0, List.replicate 32 0⟩ : Hd).cells.toArray
  have e6a := (Ext.refl v3).alloc (.cells (⟨0, List.replicate 32 0, 0, List.replicate 32 0⟩ : Hd).cells.toArray 25)
  have g7l : v3.heap.size < (v3.alloc (.cells (⟨0, List.replicate 32 0, 0, List.replicate 32 0⟩ : Hd).cells.toArray 25)).heap.size := Blk.lt hA0
  obtain ⟨g7, g7e⟩ : ∃ g7, g7 = v3.heap.size := ⟨_, rfl⟩
  have g7b : v3.heap.size ≤ g7 := by omega
  rw [← g7e] at hA0 g7l
  try rw [← g7e]
  generalize v3.alloc (.cells (⟨0, List.replicate 32 0, 0, List.replicate 32 0⟩ : Hd).cells.toArray 25) = v5' at *
  refine wpList_store_row rfl 25 (.tmp 8) (.tmp 30) rfl g7 a.cells.toArray (by rfl) (by rfl) 25 _ hA0 (Seal.size_hd a a1 a2) (by simp only [List.size_toArray]; rw [Seal.Hd.cells_length a a1 a2]; rfl) (all_oneCell_toArray (Seal.Hd.one a)) ?_
  simp only [Act.put, List.setIfInBounds_toArray, List.set_cons_zero, List.set_cons_succ]
  have hA : HdAt (v5'.setRow g7 a.cells.toArray) g7 a := Blk.row hA0 _
  have e6 : Ext v3 (v5'.setRow g7 a.cells.toArray) := e6a.row g7b _
  clear hA0 e6a g7l
  generalize v5'.setRow g7 a.cells.toArray = v5 at *
  clear v5' g7e
  replace hX := Blk.below hX e6 (Blk.lt hX)
  replace hU := Blk.below hU e6 (Blk.lt hU)
  replace hE := hE.trans e6
  clear e6
  have hfzr : v5.rangeAt w.heap.size 66 y.fz.cells := by
    have h := hX
    unfold Seal.St.cells at h
    exact Blk.range h 66 hxl.symm
  have c1 : v5.cell? ⟨w.heap.size, 100, none⟩ = some (.int .i64 y.at_) := by
    have h := hX
    unfold Seal.St.cells at h
    rw [← List.append_assoc] at h
    exact Blk.range h 100 (by rw [List.length_append, hxl, Seal.Fz.cells_length _ s0]) 0 _ rfl
  have hxb := Blk.lt hX
  go_wp2_with (refine stop_load 27 (.tmp 33) rfl ?_)
  refine ⟨?_⟩
  refine wpList_load_mid rfl 27 (.tmp 33) rfl w.heap.size (66) (by rfl) (y.fz.cells) _ hfzr Tryd.underlying27 rfl ((Seal.size_fz y.fz s0).trans (by rw [List.size_toArray])) ?_
  simp only [Act.put, List.setIfInBounds_toArray, List.set_cons_zero, List.set_cons_succ]
  go_wp2_with fail
  clear c1 hfzr hxb
  change Calls _ _ #[.string (bs ky), y.fz.v, .int .i64 y.at_] _ _
  refine (Stone_calls ky hk y.fz s0 y.at_ _ (KW.ext hE)).mono ?_; rw [← Hb.out]; rintro e v8 ⟨rfl, e9⟩
  replace hX := Blk.below hX e9 (Blk.lt hX)
  replace hU := Blk.below hU e9 (Blk.lt hU)
  replace hA := hA.ext e9
  replace hE := hE.trans e9
  clear e9
  unfold Seal.St.v
  go_wp2_with (refine stop_store 29 (.tmp 9) (.tmp 38) rfl ?_)
  refine ⟨?_⟩
  change wpList _ _ _ _ _ (v8.alloc (.cells (⟨⟨0, 0, List.replicate 32 0⟩, 0, List.replicate 32 0⟩ : St).cells.toArray 29))
  have hB0 := Blk.new v8 29 (⟨⟨0, 0, List.replicate 32 0⟩, 0, List.replicate 32 0⟩ : St).cells.toArray
  have e11a := (Ext.refl v8).alloc (.cells (⟨⟨0, 0, List.replicate 32 0⟩, 0, List.replicate 32 0⟩ : St).cells.toArray 29)
  have g12l : v8.heap.size < (v8.alloc (.cells (⟨⟨0, 0, List.replicate 32 0⟩, 0, List.replicate 32 0⟩ : St).cells.toArray 29)).heap.size := Blk.lt hB0
  obtain ⟨g12, g12e⟩ : ∃ g12, g12 = v8.heap.size := ⟨_, rfl⟩
  have g12b : v8.heap.size ≤ g12 := by omega
  rw [← g12e] at hB0 g12l
  try rw [← g12e]
  generalize v8.alloc (.cells (⟨⟨0, 0, List.replicate 32 0⟩, 0, List.replicate 32 0⟩ : St).cells.toArray 29) = v10' at *
  refine wpList_store_row rfl 29 (.tmp 9) (.tmp 38) rfl g12 b.cells.toArray (by rfl) (by rfl) 29 _ hB0 (Seal.size_st b b1 b2) (by simp only [List.size_toArray]; rw [Seal.St.cells_length b b1 b2]; rfl) (all_oneCell_toArray (Seal.St.one b)) ?_
  simp only [Act.put, List.setIfInBounds_toArray, List.set_cons_zero, List.set_cons_succ]
  have hB : StAt (v10'.setRow g12 b.cells.toArray) g12 b := Blk.row hB0 _
  have e11 : Ext v8 (v10'.setRow g12 b.cells.toArray) := e11a.row g12b _
  clear hB0 e11a g12l
  generalize v10'.setRow g12 b.cells.toArray = v10 at *
  clear v10' g12e
  replace hX := Blk.below hX e11 (Blk.lt hX)
  replace hU := Blk.below hU e11 (Blk.lt hU)
  replace hA := hA.ext e11
  replace hE := hE.trans e11
  clear e11
  have hal := Blk.lt hA
  have hbl := Blk.lt hB
  go_wp2_with (refine stop_load 25 (.tmp 8) rfl ?_)
  refine ⟨?_⟩
  refine wpList_load_row rfl 25 (.tmp 8) rfl g7 (by rfl) 25 _ (0, 0) _ hA Tryd.underlying25 rfl (Seal.size_hd a a1 a2) ?_
  simp only [Act.put, List.setIfInBounds_toArray, List.set_cons_zero, List.set_cons_succ]
  go_wp2_with fail
  change Calls _ _ #[a.v] _ _
  refine (HeadBytes_calls a a1 a2 _).mono ?_; rw [← Hea.out]; rintro e v13 ⟨rfl, e14⟩
  replace hX := Blk.below hX e14 (Blk.lt hX)
  replace hU := Blk.below hU e14 (Blk.lt hU)
  replace hA := hA.ext e14
  replace hB := hB.ext e14
  replace hE := hE.trans e14
  clear e14
  go_wp2_with (refine stop_load 29 (.tmp 9) rfl ?_)
  refine ⟨?_⟩
  refine wpList_load_row rfl 29 (.tmp 9) rfl g12 (by rfl) 29 _ (0, 0) _ hB Tryd.underlying29 rfl (Seal.size_st b b1 b2) ?_
  simp only [Act.put, List.setIfInBounds_toArray, List.set_cons_zero, List.set_cons_succ]
  go_wp2_with fail
  change Calls _ _ #[b.v] _ _
  refine (StoneBytes_calls b b1 b2 _).mono ?_; rw [← Heb.out]; rintro e v15 ⟨rfl, e16⟩
  replace hX := Blk.below hX e16 (Blk.lt hX)
  replace hU := Blk.below hU e16 (Blk.lt hU)
  replace hA := hA.ext e16
  replace hB := hB.ext e16
  replace hE := hE.trans e16
  clear e16
  go_wp2_with (refine stop_load 25 (.tmp 8) rfl ?_)
  refine ⟨?_⟩
  refine wpList_load_row rfl 25 (.tmp 8) rfl g7 (by rfl) 25 _ (0, 0) _ hA Tryd.underlying25 rfl (Seal.size_hd a a1 a2) ?_
  simp only [Act.put, List.setIfInBounds_toArray, List.set_cons_zero, List.set_cons_succ]
  go_wp2_with fail
  change Calls _ _ #[.string (bs ky), a.v] _ _
  refine (HeadRight_calls ky hk a a1 a2 _ (KW.ext hE)).mono ?_; rw [Pa1.out]; rintro e v17 ⟨rfl, e18⟩
  replace hX := Blk.below hX e18 (Blk.lt hX)
  replace hU := Blk.below hU e18 (Blk.lt hU)
  replace hA := hA.ext e18
  replace hB := hB.ext e18
  replace hE := hE.trans e18
  clear e18
  have pp : (p != p) = false := by simp
  have qq : (q != q) = false := by simp
  have pp2 : (p == p) = true := by simp
  have qq2 : (q == q) = true := by simp
  go_wp2_with (refine stop_load 29 (.tmp 9) rfl ?_)
  refine ⟨?_⟩
  refine list_wantS (by rfl) (fun K hK => ?_)
  refine wp_load_row 29 (.tmp 9) rfl g12 (by rfl) 29 _ (0, 0) _ hB Tryd.underlying29 rfl (Seal.size_st b b1 b2) ?_
  refine hK _ _ ?_; clear hK K
  simp only [Act.put, List.setIfInBounds_toArray, List.set_cons_zero, List.set_cons_succ]
  go_wp2_with fail
  change Calls _ _ #[.string (bs ky), b.v] _ _
  refine (StoneRight_calls ky hk b b1 b2 _ (KW.ext hE)).mono ?_; rw [Pb1.out]; rintro e v19 ⟨rfl, e20⟩
  replace hX := Blk.below hX e20 (Blk.lt hX)
  replace hU := Blk.below hU e20 (Blk.lt hU)
  replace hA := hA.ext e20
  replace hB := hB.ext e20
  replace hE := hE.trans e20
  clear e20
  go_wp2_with (refine stop_load 25 (.tmp 8) rfl ?_)
  refine ⟨?_⟩
  refine wpList_load_row rfl 25 (.tmp 8) rfl g7 (by rfl) 25 _ (0, 0) _ hA Tryd.underlying25 rfl (Seal.size_hd a a1 a2) ?_
  simp only [Act.put, List.setIfInBounds_toArray, List.set_cons_zero, List.set_cons_succ]
  have q1 := Blk.lt hU
  have q2 := Blk.lt hA
  have q3 := Blk.lt hB
  go_wp2_with (refine stop_store 25 (.tmp 14) (.tmp 63) rfl ?_)
  refine ⟨?_⟩
  change wpList _ _ _ _ _ (v19.alloc (.cells (⟨0, List.replicate 32 0, 0, List.replicate 32 0⟩ : Hd).cells.toArray 25))
  have hC0 := Blk.new v19 25 (⟨0, List.replicate 32 0, 0, List.replicate 32 0⟩ : Hd).cells.toArray
  have e22a := (Ext.refl v19).alloc (.cells (⟨0, List.replicate 32 0, 0, List.replicate 32 0⟩ : Hd).cells.toArray 25)
  have g23l : v19.heap.size < (v19.alloc (.cells (⟨0, List.replicate 32 0, 0, List.replicate 32 0⟩ : Hd).cells.toArray 25)).heap.size := Blk.lt hC0
  obtain ⟨g23, g23e⟩ : ∃ g23, g23 = v19.heap.size := ⟨_, rfl⟩
  have g23b : v19.heap.size ≤ g23 := by omega
  rw [← g23e] at hC0 g23l
  try rw [← g23e]
  generalize v19.alloc (.cells (⟨0, List.replicate 32 0, 0, List.replicate 32 0⟩ : Hd).cells.toArray 25) = v21' at *
  refine wpList_store_row rfl 25 (.tmp 14) (.tmp 63) rfl g23 a.cells.toArray (by rfl) (by rfl) 25 _ hC0 (Seal.size_hd a a1 a2) (by simp only [List.size_toArray]; rw [Seal.Hd.cells_length a a1 a2]; rfl) (all_oneCell_toArray (Seal.Hd.one a)) ?_
  simp only [Act.put, List.setIfInBounds_toArray, List.set_cons_zero, List.set_cons_succ]
  have hC : HdAt (v21'.setRow g23 a.cells.toArray) g23 a := Blk.row hC0 _
  have e22 : Ext v19 (v21'.setRow g23 a.cells.toArray) := e22a.row g23b _
  clear hC0 e22a g23l
  generalize v21'.setRow g23 a.cells.toArray = v21 at *
  clear v21' g23e
  replace hX := Blk.below hX e22 (Blk.lt hX)
  replace hU := Blk.below hU e22 (Blk.lt hU)
  replace hA := hA.ext e22
  replace hB := hB.ext e22
  replace hE := hE.trans e22
  clear e22
  go_wp2_with (refine stop_load 29 (.tmp 9) rfl ?_)
  refine ⟨?_⟩
  refine wpList_load_row rfl 29 (.tmp 9) rfl g12 (by rfl) 29 _ (0, 0) _ hB Tryd.underlying29 rfl (Seal.size_st b b1 b2) ?_
  simp only [Act.put, List.setIfInBounds_toArray, List.set_cons_zero, List.set_cons_succ]
  have r1 := Blk.lt hU
  have r2 := Blk.lt hA
  have r3 := Blk.lt hB
  have r4 := Blk.lt hC
  go_wp2_with (refine stop_store 29 (.tmp 15) (.tmp 64) rfl ?_)
  refine ⟨?_⟩
  change wpList _ _ _ _ _ (v21.alloc (.cells (⟨⟨0, 0, List.replicate 32 0⟩, 0, List.replicate 32 0⟩ : St).cells.toArray 29))
  have hD0 := Blk.new v21 29 (⟨⟨0, 0, List.replicate 32 0⟩, 0, List.replicate 32 0⟩ : St).cells.toArray
  have e25a := (Ext.refl v21).alloc (.cells (⟨⟨0, 0, List.replicate 32 0⟩, 0, List.replicate 32 0⟩ : St).cells.toArray 29)
  have g26l : v21.heap.size < (v21.alloc (.cells (⟨⟨0, 0, List.replicate 32 0⟩, 0, List.replicate 32 0⟩ : St).cells.toArray 29)).heap.size := Blk.lt hD0
  obtain ⟨g26, g26e⟩ : ∃ g26, g26 = v21.heap.size := ⟨_, rfl⟩
  have g26b : v21.heap.size ≤ g26 := by omega
  rw [← g26e] at hD0 g26l
  try rw [← g26e]
  generalize v21.alloc (.cells (⟨⟨0, 0, List.replicate 32 0⟩, 0, List.replicate 32 0⟩ : St).cells.toArray 29) = v24' at *
  refine wpList_store_row rfl 29 (.tmp 15) (.tmp 64) rfl g26 b.cells.toArray (by rfl) (by rfl) 29 _ hD0 (Seal.size_st b b1 b2) (by simp only [List.size_toArray]; rw [Seal.St.cells_length b b1 b2]; rfl) (all_oneCell_toArray (Seal.St.one b)) ?_
  simp only [Act.put, List.setIfInBounds_toArray, List.set_cons_zero, List.set_cons_succ]
  have hD : StAt (v24'.setRow g26 b.cells.toArray) g26 b := Blk.row hD0 _
  have e25 : Ext v21 (v24'.setRow g26 b.cells.toArray) := e25a.row g26b _
  clear hD0 e25a g26l
  generalize v24'.setRow g26 b.cells.toArray = v24 at *
  clear v24' g26e
  replace hX := Blk.below hX e25 (Blk.lt hX)
  replace hU := Blk.below hU e25 (Blk.lt hU)
  replace hA := hA.ext e25
  replace hB := hB.ext e25
  replace hC := hC.ext e25
  replace hE := hE.trans e25
  clear e25
  have hua : a.mac.length = u.length := by omega
  have hub : b.mac.length = u.length := by omega
  have hC0 : HdAt v24 g23 ⟨a.size, a.root, a.clock, turnTo a.mac u 0⟩ := by rw [turnTo_zero]; exact hC
  have hD0 : StAt v24 g26 ⟨b.fz, b.at_, turnTo b.mac u 0⟩ := by rw [turnTo_zero]; exact hD
  have lA := Blk.lt hA
  have lB := Blk.lt hB
  have lU := Blk.lt hU
  have lC := Blk.lt hC
  clear hX
  have Hua := Lib.hid hua; have Hub := Lib.hid hub; have Hu := Lib.hid hu; have A2 := Lib.hid a2; have B2 := Lib.hid b2
  clear hua hub hu a2 b2
  go_wp2_with fail
  go_loopw [16] (fun v wr => ∃ i : Nat, i ≤ 32 ∧ v = .int .i64 (i : Int) ∧ HdAt wr g23 (⟨a.size, a.root, a.clock, turnTo a.mac u i⟩ : Hd) ∧ StAt wr g26 (⟨b.fz, b.at_, turnTo b.mac u i⟩ : St) ∧ HdAt wr g7 a ∧ StAt wr g12 b ∧ ArrB wr (w.heap.size + 1) 23 u ∧ Ext w wr) (fun v _ => 32 - (intOf v).toNat)
  case atStart => exact ⟨0, by omega, rfl, hC0, hD0, hA, hB, hU, hE⟩
  case round =>
    clear hC0 hD0 hA hB hU hE hC hD
    obtain ⟨i, hi, rfl, hC, hD, hA, hB, hU, hE⟩ := hrel
    by_cases hlt : i < 32
    · have hit : (i : Int) < 32 := by omega
      have hia : i < a.mac.length := by rw [A2.out]; exact hlt
      have hib : i < b.mac.length := by rw [B2.out]; exact hlt
      have hiu : i < u.length := by rw [Hu.out]; exact hlt
      have hC' := hC
      unfold HdAt at hC'
      rw [hd_pre] at hC'
      have hD' := hD
      unfold StAt at hD'
      rw [st_pre] at hD'
      have cc : wr.cell? ⟨g23, 34 + i, none⟩ = some (.int .u8 (a.mac[i].toNat : Int)) := by
        have := cell_mid hC' 34 (by simp [hcells_length, a1]) i (by rw [turnTo_length _ _ Hua.out]; exact hia)
        rwa [turnTo_get _ _ Hua.out i hia] at this
      have cu : wr.cell? ⟨w.heap.size + 1, i, none⟩ = some (.int .u8 (u[i].toNat : Int)) := hU.cell i hiu
      have fc := Blk.frozen hC (34 + i)
      have lc := Blk.lt hC; have ld := Blk.lt hD; have lu := Blk.lt hU
      have sa := turnTo_succ a.mac u Hua.out i hia
      have sb := turnTo_succ b.mac u Hub.out i hib
      have sl1 := turnTo_length a.mac u Hua.out i
      have sl2 := turnTo_length b.mac u Hub.out i
      have Sa := Lib.hid sa; have Sb := Lib.hid sb; have Sl1 := Lib.hid sl1; have Sl2 := Lib.hid sl2; have HC' := Lib.hid hC'; have HD' := Lib.hid hD'
      clear sa sb sl1 sl2 hC' hC hD' hD
      generalize hca : a.mac[i] = ca at *
      generalize hcb : u[i] = cb at *
      have Hca := Lib.hid hca; have Hcb := Lib.hid hcb
      clear hca hcb
      go_wp2_with fail
      refine region_mix 10 (by kernel_rfl) (by kernel_rfl) (fun x => ?_); simp only [List.take_succ_cons, List.take_zero, List.drop_succ_cons, List.drop_zero]
      repeat (first | (refine mix_quiet (by rfl) (by rfl) (fun K hK => ?_); go_big_quiet_op; refine hK _ ?_; clear hK K) | (refine mix_skip (by rfl) ?_; simp only [Act.put, List.setIfInBounds_toArray, List.set_cons_zero, List.set_cons_succ]))
      refine mix_nil ?_
      go_wp2_with fail
      rw [byte_xor]
      have hC5 := set_mid (Blk.grow x HC'.out) 34 (by simp [hcells_length, a1]) i (by rw [Sl1.out]; exact hia) (ca ^^^ cb)
      have hA5 : HdAt ((grow wr x).setCell ⟨g23, 34 + i, none⟩ (.int .u8 ((ca ^^^ cb).toNat : Int))) g7 a := Blk.far (hA.grow x) (p := ⟨g23, 34 + i, none⟩) (by show g7 ≠ g23; omega) _
      have hB5 : StAt ((grow wr x).setCell ⟨g23, 34 + i, none⟩ (.int .u8 ((ca ^^^ cb).toNat : Int))) g12 b := Blk.far (hB.grow x) (p := ⟨g23, 34 + i, none⟩) (by show g12 ≠ g23; omega) _
      have hU5 : ArrB ((grow wr x).setCell ⟨g23, 34 + i, none⟩ (.int .u8 ((ca ^^^ cb).toNat : Int))) (w.heap.size + 1) 23 u := Blk.far (Blk.grow x hU) (p := ⟨g23, 34 + i, none⟩) (by show w.heap.size + 1 ≠ g23; omega) _
      have hD5 := Blk.far (Blk.grow x HD'.out) (p := ⟨g23, 34 + i, none⟩) (by show g26 ≠ g23; omega) (.int .u8 ((ca ^^^ cb).toNat : Int))
      have hE5 : Ext w ((grow wr x).setCell ⟨g23, 34 + i, none⟩ (.int .u8 ((ca ^^^ cb).toNat : Int))) := (hE.trans (grow_ext x)).setCell (p := ⟨g23, 34 + i, none⟩) (by show w.heap.size ≤ g23; omega) _
      have e0 : (turnTo a.mac u i).set i (ca ^^^ cb) = turnTo a.mac u (i + 1) := Sa.out.symm
      rw [e0] at hC5
      have HC5 := Lib.hid hC5; have HD5 := Lib.hid hD5
      have cd : ((grow wr x).setCell ⟨g23, 34 + i, none⟩ (.int .u8 ((ca ^^^ cb).toNat : Int))).cell? ⟨g26, 35 + i, none⟩ = some (.int .u8 (b.mac[i].toNat : Int)) := by
        have := cell_mid hD5 35 (by simp [Seal.Fz.cells_length _ b1]) i (by rw [Sl2.out]; exact hib)
        rwa [turnTo_get _ _ Hub.out i hib] at this
      have cu5 : ((grow wr x).setCell ⟨g23, 34 + i, none⟩ (.int .u8 ((ca ^^^ cb).toNat : Int))).cell? ⟨w.heap.size + 1, i, none⟩ = some (.int .u8 (cb.toNat : Int)) := by
        have := hU5.cell i hiu
        rw [Hcb.out] at this
        exact this
      have fd := Blk.frozen hD5 (35 + i)
      have ld5 := Blk.lt hD5; have lu5 := Blk.lt hU5
      clear hC5 hD5 hA hB hU hE cc cu fc lc ld lu
      generalize hw5 : (grow wr x).setCell ⟨g23, 34 + i, none⟩ (.int .u8 ((ca ^^^ cb).toNat : Int)) = w5 at *
      clear hw5
      generalize hcd : b.mac[i] = cd' at *
      have Hcd := Lib.hid hcd; clear hcd
      refine region_mix 10 (by kernel_rfl) (by kernel_rfl) (fun x => ?_); simp only [List.take_succ_cons, List.take_zero, List.drop_succ_cons, List.drop_zero]
      repeat (first | (refine mix_quiet (by rfl) (by rfl) (fun K hK => ?_); go_big_quiet_op; refine hK _ ?_; clear hK K) | (refine mix_skip (by rfl) ?_; simp only [Act.put, List.setIfInBounds_toArray, List.set_cons_zero, List.set_cons_succ]))
      refine mix_nil ?_
      go_wp2_with fail
      go_roundw
      case rel =>
        rw [byte_xor]
        have hD6 := set_mid (Blk.grow x HD5.out) 35 (by simp [Seal.Fz.cells_length _ b1]) i (by rw [Sl2.out]; exact hib) (cd' ^^^ cb)
        have e1 : (turnTo b.mac u i).set i (cd' ^^^ cb) = turnTo b.mac u (i + 1) := Sb.out.symm
        rw [e1] at hD6
        refine ⟨i + 1, by omega, by go_num, ?_, ?_, Blk.far (hA5.grow x) (by simp; omega) _, Blk.far (hB5.grow x) (by simp; omega) _, Blk.far (Blk.grow x hU5) (by simp; omega) _, (hE5.trans (grow_ext x)).setCell (by simp; omega) _⟩
        · have := Blk.far (Blk.grow x HC5.out) (p := ⟨g26, 35 + i, none⟩) (by show g23 ≠ g26; omega) (.int .u8 ((cd' ^^^ cb).toNat : Int))
          unfold HdAt
          rw [hd_pre]
          exact this
        · unfold StAt
          rw [st_pre]
          exact hD6
      case measure => simp [intOf]; omega
    · obtain rfl : i = 32 := by omega
      rw [show ((32 : Nat) : Int) = 32 from rfl]
      have hzl : (turnTo a.mac u 32).length = 32 := by rw [turnTo_length _ _ Hua.out]; exact A2.out
      have hyl : (turnTo b.mac u 32).length = 32 := by rw [turnTo_length _ _ Hub.out]; exact B2.out
      generalize turnTo a.mac u 32 = z at *
      generalize turnTo b.mac u 32 = y2 at *
      have a2 := A2.out
      have b2 := B2.out
      clear hU
      obtain ⟨dp, hdp⟩ : ∃ dp, dp = decide ((⟨a.size, a.root, a.clock, z⟩ : Hd) = a) := ⟨_, rfl⟩
      obtain ⟨dq, hdq⟩ : ∃ dq, dq = decide ((⟨b.fz, b.at_, y2⟩ : St) = b) := ⟨_, rfl⟩
      have heqa : ∀ w : World, (Op.equalIn 10000 25 (Hd.v ⟨a.size, a.root, a.clock, z⟩) a.v).run Tryd.prog w = .ok dp w := fun w => by rw [eq_hd ⟨a.size, a.root, a.clock, z⟩ a a1 a1 hzl a2 w, hdp]
      have heqb : ∀ w : World, (Op.equalIn 10000 29 (St.v ⟨b.fz, b.at_, y2⟩) b.v).run Tryd.prog w = .ok dq w := fun w => by rw [eq_st ⟨b.fz, b.at_, y2⟩ b b1 b1 hyl b2 w, hdq]
      have hpg := Pa3.out z
      have hqg := Pb3.out y2
      rw [← hdp] at hpg
      rw [← hdq] at hqg
      have dpp : (dp == dp) = true := by simp
      have dqq : (dq == dq) = true := by simp
      have Hpg := Lib.hid hpg; have Hqg := Lib.hid hqg
      clear hpg hqg hdp hdq Pa3 Pb3
      unfold Seal.Hd.v at heqa
      unfold Seal.St.v at heqb
      go_wp2_with (refine stop_load 25 (.tmp 14) rfl ?_)
      refine ⟨?_⟩
      refine list_wantS (by rfl) (fun K hK => ?_)
      refine wp_load_row 25 (.tmp 14) rfl g23 (by rfl) 25 _ (0, 0) _ hC Tryd.underlying25 rfl (Seal.size_hd (⟨a.size, a.root, a.clock, z⟩ : Hd) a1 hzl) ?_
      refine hK _ _ ?_; clear hK K
      simp only [Act.put, List.setIfInBounds_toArray, List.set_cons_zero, List.set_cons_succ]
      go_wp2_with fail
      change Calls _ _ #[.string (bs ky), Hd.v ⟨a.size, a.root, a.clock, z⟩] _ _
      refine (HeadRight_calls ky hk ⟨a.size, a.root, a.clock, z⟩ a1 hzl _ (KW.ext hE)).mono ?_; rw [Hpg.out]; rintro e v1 ⟨rfl, e2⟩
      replace hA := hA.ext e2
      replace hB := hB.ext e2
      replace hC := hC.ext e2
      replace hD := hD.ext e2
      replace hE := hE.trans e2
      clear e2
      rcases p with _ | _
      · simp only [Bool.false_and]
        go_wp2_with (refine stop_load 29 (.tmp 15) rfl ?_)
        refine ⟨?_⟩
        refine list_wantS (by rfl) (fun K hK => ?_)
        refine wp_load_row 29 (.tmp 15) rfl g26 (by rfl) 29 _ (0, 0) _ hD Tryd.underlying29 rfl (Seal.size_st (⟨b.fz, b.at_, y2⟩ : St) b1 hyl) ?_
        refine hK _ _ ?_; clear hK K
        simp only [Act.put, List.setIfInBounds_toArray, List.set_cons_zero, List.set_cons_succ]
        go_wp2_with fail
        change Calls _ _ #[.string (bs ky), St.v ⟨b.fz, b.at_, y2⟩] _ _
        refine (StoneRight_calls ky hk ⟨b.fz, b.at_, y2⟩ b1 hyl _ (KW.ext hE)).mono ?_; rw [Hqg.out]; rintro e v3 ⟨rfl, e4⟩
        replace hA := hA.ext e4
        replace hB := hB.ext e4
        replace hC := hC.ext e4
        replace hD := hD.ext e4
        replace hE := hE.trans e4
        clear e4
        rcases q with _ | _
        · simp only [Bool.false_and]
          go_wp2_with fail
          go_ret
          exact ⟨rfl, hE⟩
        · simp only [Bool.true_and]
          go_wp2_with (refine stop_load 29 (.tmp 15) rfl ?_)
          refine ⟨?_⟩
          refine list_wantS (by rfl) (fun K hK => ?_)
          refine wp_load_row 29 (.tmp 15) rfl g26 (by rfl) 29 _ (0, 0) _ hD Tryd.underlying29 rfl (Seal.size_st (⟨b.fz, b.at_, y2⟩ : St) b1 hyl) ?_
          refine hK _ _ ?_; clear hK K
          simp only [Act.put, List.setIfInBounds_toArray, List.set_cons_zero, List.set_cons_succ]
          go_wp2_with (refine stop_load 29 (.tmp 9) rfl ?_)
          refine ⟨?_⟩
          refine list_wantS (by rfl) (fun K hK => ?_)
          refine wp_load_row 29 (.tmp 9) rfl g12 (by rfl) 29 _ (0, 0) _ hB Tryd.underlying29 rfl (Seal.size_st b b1 b2) ?_
          refine hK _ _ ?_; clear hK K
          simp only [Act.put, List.setIfInBounds_toArray, List.set_cons_zero, List.set_cons_succ]
          go_wp2_with fail
          go_ret
          exact ⟨rfl, hE⟩
      · simp only [Bool.true_and]
        go_wp2_with (refine stop_load 25 (.tmp 14) rfl ?_)
        refine ⟨?_⟩
        refine list_wantS (by rfl) (fun K hK => ?_)
        refine wp_load_row 25 (.tmp 14) rfl g23 (by rfl) 25 _ (0, 0) _ hC Tryd.underlying25 rfl (Seal.size_hd (⟨a.size, a.root, a.clock, z⟩ : Hd) a1 hzl) ?_
        refine hK _ _ ?_; clear hK K
        simp only [Act.put, List.setIfInBounds_toArray, List.set_cons_zero, List.set_cons_succ]
        go_wp2_with (refine stop_load 25 (.tmp 8) rfl ?_)
        refine ⟨?_⟩
        refine list_wantS (by rfl) (fun K hK => ?_)
        refine wp_load_row 25 (.tmp 8) rfl g7 (by rfl) 25 _ (0, 0) _ hA Tryd.underlying25 rfl (Seal.size_hd a a1 a2) ?_
        refine hK _ _ ?_; clear hK K
        simp only [Act.put, List.setIfInBounds_toArray, List.set_cons_zero, List.set_cons_succ]
        go_wp2_with (refine stop_load 29 (.tmp 15) rfl ?_)
        refine ⟨?_⟩
        refine list_wantS (by rfl) (fun K hK => ?_)
        refine wp_load_row 29 (.tmp 15) rfl g26 (by rfl) 29 _ (0, 0) _ hD Tryd.underlying29 rfl (Seal.size_st (⟨b.fz, b.at_, y2⟩ : St) b1 hyl) ?_
        refine hK _ _ ?_; clear hK K
        simp only [Act.put, List.setIfInBounds_toArray, List.set_cons_zero, List.set_cons_succ]
        go_wp2_with fail
        change Calls _ _ #[.string (bs ky), St.v ⟨b.fz, b.at_, y2⟩] _ _
        refine (StoneRight_calls ky hk ⟨b.fz, b.at_, y2⟩ b1 hyl _ (KW.ext hE)).mono ?_; rw [Hqg.out]; rintro e v3 ⟨rfl, e4⟩
        replace hA := hA.ext e4
        replace hB := hB.ext e4
        replace hC := hC.ext e4
        replace hD := hD.ext e4
        replace hE := hE.trans e4
        clear e4
        rcases q with _ | _
        · simp only [Bool.false_and]
          go_wp2_with fail
          go_ret
          exact ⟨rfl, hE⟩
        · simp only [Bool.true_and]
          go_wp2_with (refine stop_load 29 (.tmp 15) rfl ?_)
          refine ⟨?_⟩
          refine list_wantS (by rfl) (fun K hK => ?_)
          refine wp_load_row 29 (.tmp 15) rfl g26 (by rfl) 29 _ (0, 0) _ hD Tryd.underlying29 rfl (Seal.size_st (⟨b.fz, b.at_, y2⟩ : St) b1 hyl) ?_
          refine hK _ _ ?_; clear hK K
          simp only [Act.put, List.setIfInBounds_toArray, List.set_cons_zero, List.set_cons_succ]
          go_wp2_with (refine stop_load 29 (.tmp 9) rfl ?_)
          refine ⟨?_⟩
          refine list_wantS (by rfl) (fun K hK => ?_)
          refine wp_load_row 29 (.tmp 9) rfl g12 (by rfl) 29 _ (0, 0) _ hB Tryd.underlying29 rfl (Seal.size_st b b1 b2) ?_
          refine hK _ _ ?_; clear hK K
          simp only [Act.put, List.setIfInBounds_toArray, List.set_cons_zero, List.set_cons_succ]
          go_wp2_with fail
          go_ret
          exact ⟨rfl, hE⟩

set_option maxRecDepth 100000 in
theorem contract (H : Type) (enc : TypeId × Value → H) (W : World) (base : Nat) (args : Array Value) (ds gs : List (DataW H)) (before : List MemPlace)
    (hval0 : ∀ (j : Nat) t v, Tryd.f5.params[j]? = some t → args[j]? = some v → Value.okWide Tryd.prog W .any base t v)
    (hW : DataW.Whole enc Tryd.prog Tryd.f5.params.toList Rows.sealRightSpec.vars false W args.toList ds gs before) (hL : laidMetH Tryd.prog Rows.sealRightRow.laid W) :
    Calls Tryd.prog 5 args W fun e W' => ∃ v, e = .returned v ∧ Rows.sealRightSpec.post enc Tryd.prog Tryd.f5 false true false false W args v W' := by
  have K : Keys W := keys_of hL
  have hval : ∀ (j : Nat) t v, Tryd.f5.params[j]? = some t → args[j]? = some v → Value.okWide Tryd.prog W .any base t v := hval0
  have hW' := hW
  obtain ⟨p, q, hA0, hV, rfl, hfz, hnd⟩ := hW
  have hA : DataW.TrodAll enc Tryd.prog W 0 (fun _ => true) true Tryd.f5.params.toList args.toList ds p := hA0
  rw [Tryd.params5] at hA hval
  obtain ⟨v0, vs0, d0, ds0, p0, q0, hargs, rfl, rfl, hx0, r0⟩ := trodAll_cons hA
  obtain ⟨v1, vs1, d1, ds1, p1, q1, rfl, rfl, rfl, hx1, r1⟩ := trodAll_cons r0
  obtain ⟨v2, vs2, d2, ds2, p2, q2, rfl, rfl, rfl, hx2, r2⟩ := trodAll_cons r1
  obtain ⟨rfl, rfl, rfl⟩ := trodAll_nil r2
  obtain rfl : args = #[v0, v1, v2] := by cases args; simp_all
  obtain ⟨rfl, rfl⟩ := trodVars_none hV
  obtain ⟨key, rfl, hkey⟩ := op_str (hval 0 9 v0 rfl rfl) (tr_of hx0)
  obtain ⟨b1, b2, rfl, hb1, hb2⟩ := op_hs (hval 1 47 v1 rfl rfl) (tr_of hx1)
  obtain ⟨u, rfl, hu⟩ := op_sum (hval 2 23 v2 rfl rfl) (tr_of hx2)
  refine (walk key b1 b2 u hkey hb1 hb2 hu W K).mono fun e W' ⟨he, hg⟩ => ?_
  subst he
  exact ⟨_, rfl, law_post hW' rfl rfl (by kernel_rfl) rfl rfl rfl hg⟩

theorem laid_met (os : Os) : laidMet Tryd.prog Rows.sealRightRow.laid ((keysWorld os).forCall (fun _ _ => 0) ⟨#[], #[.string .empty, .agg (Array.mk (α := Value) ((Value.int IntKind.i64 0 :: (List.replicate 32 (Value.int IntKind.u8 0) ++ (Value.int IntKind.i64 0 :: List.replicate 32 (Value.int IntKind.u8 0)))) ++ ((Value.int IntKind.i64 0 :: Value.int IntKind.i64 0 :: List.replicate 32 (Value.int IntKind.u8 0)) ++ (Value.int IntKind.i64 0 :: List.replicate 32 (Value.int IntKind.u8 0))))), .agg #[.int .u8 0, .int .u8 0, .int .u8 0, .int .u8 0, .int .u8 0, .int .u8 0, .int .u8 0, .int .u8 0, .int .u8 0, .int .u8 0, .int .u8 0, .int .u8 0, .int .u8 0, .int .u8 0, .int .u8 0, .int .u8 0, .int .u8 0, .int .u8 0, .int .u8 0, .int .u8 0, .int .u8 0, .int .u8 0, .int .u8 0, .int .u8 0, .int .u8 0, .int .u8 0, .int .u8 0, .int .u8 0, .int .u8 0, .int .u8 0, .int .u8 0, .int .u8 0]], []⟩).memory :=
  laidMet_of_run' 8 (by kernel_rfl) (by kernel_rfl)
theorem reads (os : Os) {H : Type} (enc : TypeId × Value → H) : ∃ x, DataW.whole enc Tryd.prog ((keysWorld os).forCall (fun _ _ => 0) ⟨#[], #[.string .empty, .agg (Array.mk (α := Value) ((Value.int IntKind.i64 0 :: (List.replicate 32 (Value.int IntKind.u8 0) ++ (Value.int IntKind.i64 0 :: List.replicate 32 (Value.int IntKind.u8 0)))) ++ ((Value.int IntKind.i64 0 :: Value.int IntKind.i64 0 :: List.replicate 32 (Value.int IntKind.u8 0)) ++ (Value.int IntKind.i64 0 :: List.replicate 32 (Value.int IntKind.u8 0))))), .agg #[.int .u8 0, .int .u8 0, .int .u8 0, .int .u8 0, .int .u8 0, .int .u8 0, .int .u8 0, .int .u8 0, .int .u8 0, .int .u8 0, .int .u8 0, .int .u8 0, .int .u8 0, .int .u8 0, .int .u8 0, .int .u8 0, .int .u8 0, .int .u8 0, .int .u8 0, .int .u8 0, .int .u8 0, .int .u8 0, .int .u8 0, .int .u8 0, .int .u8 0, .int .u8 0, .int .u8 0, .int .u8 0, .int .u8 0, .int .u8 0, .int .u8 0, .int .u8 0]], []⟩).memory Tryd.f5.params.toList Rows.sealRightSpec.vars false (#[.string .empty, .agg (Array.mk (α := Value) ((Value.int IntKind.i64 0 :: (List.replicate 32 (Value.int IntKind.u8 0) ++ (Value.int IntKind.i64 0 :: List.replicate 32 (Value.int IntKind.u8 0)))) ++ ((Value.int IntKind.i64 0 :: Value.int IntKind.i64 0 :: List.replicate 32 (Value.int IntKind.u8 0)) ++ (Value.int IntKind.i64 0 :: List.replicate 32 (Value.int IntKind.u8 0))))), .agg #[.int .u8 0, .int .u8 0, .int .u8 0, .int .u8 0, .int .u8 0, .int .u8 0, .int .u8 0, .int .u8 0, .int .u8 0, .int .u8 0, .int .u8 0, .int .u8 0, .int .u8 0, .int .u8 0, .int .u8 0, .int .u8 0, .int .u8 0, .int .u8 0, .int .u8 0, .int .u8 0, .int .u8 0, .int .u8 0, .int .u8 0, .int .u8 0, .int .u8 0, .int .u8 0, .int .u8 0, .int .u8 0, .int .u8 0, .int .u8 0, .int .u8 0, .int .u8 0]] : Array Value).toList 8 = some x :=
  Option.isSome_iff_exists.1 (by kernel_rfl)
set_option maxRecDepth 100000 in
theorem lifted (os : Os) (started : os.Started) (H : Type) (enc : TypeId × Value → H) (F : Stop.Interp) :
    ReturnsInHanded {} Tryd.checked os 5 .any ((OpenSpec.ofChange Rows.sealRightSpec).preRow enc Tryd.prog Tryd.f5 Rows.sealRightRow.domain false Rows.sealRightRow.laid) (((OpenSpec.ofChange Rows.sealRightSpec).at F).post enc Tryd.prog Tryd.f5 false true false false) := by
  obtain ⟨x, hx⟩ := reads os enc
  refine returnsInHanded_of_row (C := Tryd.checked) (s := OpenSpec.ofChange Rows.sealRightSpec) own_ started (by kernel_rfl) Tryd.func5
    (witness_row_at (enc := enc) (C := Tryd.checked) false (keysWorld os) #[.string .empty, .agg (Array.mk (α := Value) ((Value.int IntKind.i64 0 :: (List.replicate 32 (Value.int IntKind.u8 0) ++ (Value.int IntKind.i64 0 :: List.replicate 32 (Value.int IntKind.u8 0)))) ++ ((Value.int IntKind.i64 0 :: Value.int IntKind.i64 0 :: List.replicate 32 (Value.int IntKind.u8 0)) ++ (Value.int IntKind.i64 0 :: List.replicate 32 (Value.int IntKind.u8 0))))), .agg #[.int .u8 0, .int .u8 0, .int .u8 0, .int .u8 0, .int .u8 0, .int .u8 0, .int .u8 0, .int .u8 0, .int .u8 0, .int .u8 0, .int .u8 0, .int .u8 0, .int .u8 0, .int .u8 0, .int .u8 0, .int .u8 0, .int .u8 0, .int .u8 0, .int .u8 0, .int .u8 0, .int .u8 0, .int .u8 0, .int .u8 0, .int .u8 0, .int .u8 0, .int .u8 0, .int .u8 0, .int .u8 0, .int .u8 0, .int .u8 0, .int .u8 0, .int .u8 0]] rfl (by kernel_rfl) (by kernel_rfl) (by kernel_rfl)
      (OpenSpec.preRow_of_cond 8 hx rfl (fun k hk => by cases hk) (by kernel_rfl) (laid_met os))) ?_
  intro W base args ds gs before hval hW _ _ _ hL _ _
  exact contract H enc W base args ds gs before hval hW hL

theorem said : Rows.SealRightSaid :=
  OpenClaim.holds_of_cond 5 Tryd.f5 rfl rfl rfl rfl rfl rfl rfl ⟨rfl, rfl, rfl, rfl, rfl⟩ rfl rfl rfl rfl rfl (by kernel_rfl) Tryd.func5 (by kernel_rfl)
    (of_decide_eq_true (by kernel_rfl)) (by unfold Func.isWrapper; first | (rw [if_pos (by decide +kernel)]; kernel_rfl) | (rw [if_neg (by decide +kernel)]; exact ⟨rfl, rfl⟩))
    (fun os started H enc _ F => by rw [OpenClaim.pre_eq_preRow]; exact lifted os started H enc F)
theorem plain (f : FuncId) (fn : Func) (hf : Tryd.pinned.checked.prog.funcNamed "scrinium/scriniumlaw16.SealRight" = some f) (hfn : Tryd.pinned.checked.prog.funcs[f]? = some fn) :
    false = Tryd.pinned.checked.prog.looks [] ∧ ∀ (j : Nat) t, fn.params[j]? = some t → Tryd.pinned.checked.prog.wantsStandIn t = false := by
  obtain rfl : f = 5 := Option.some.inj ((show Tryd.prog.funcNamed "scrinium/scriniumlaw16.SealRight" = some 5 by kernel_rfl).symm.trans hf) |>.symm
  obtain rfl : fn = Tryd.f5 := (Option.some.inj (Tryd.func5.symm.trans hfn)).symm
  refine ⟨by kernel_rfl, fun j t ht => ?_⟩
  rw [Tryd.params5] at ht
  have hm : t ∈ ([9, 47, 23] : List TypeId) := by simpa using Array.mem_of_getElem? ht
  have hall : (([9, 47, 23] : List TypeId).all fun u => !Tryd.prog.wantsStandIn u) = true := by kernel_rfl
  exact (show Tryd.prog.wantsStandIn t = false by simpa using List.all_eq_true.1 hall t hm)
theorem proved : Rows.SealRightCardSaid :=
  Claim7.holds_tied_plain_at .later [] _ _ _ _ said (fun _ h => by cases h) (by kernel_rfl) (fun _ h => by cases h) sealRight_row_tie rfl ⟨rfl, rfl⟩ (by kernel_rfl) rfl plain (by kernel_rfl)

end Go.Proofs.YtcgnjdkennkheaaDoor.sealRight
