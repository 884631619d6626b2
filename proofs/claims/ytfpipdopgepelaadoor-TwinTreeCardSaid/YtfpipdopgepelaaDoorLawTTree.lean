/-
  scriniumlaw13.TwinTree: no condition.
-/
import Derived.Test.YtfpipdopgepelaaDoorTwinP
import Derived.Test.YtfpipdopgepelaaDoorRefPath
import Derived.Test.YtfpipdopgepelaaDoorOpR
import Derived.Test.YtfpipdopgepelaaDoorEqA
import Derived.Test.YtfpipdopgepelaaDoorLaw
import Derived.Deep.DeepCutAuto
set_option linter.unusedVariables false
set_option maxRecDepth 100000
set_option linter.unusedSimpArgs false
namespace Go.Proofs.YtfpipdopgepelaaDoor.twinTree
open Go.ChangeShapes Go.WideShapes Go.ChangeAt Go.RowKit
attribute [local go_sem] bs_size bs_toList2 bs_append bs_extract_end bs_extract_begin bs_get wrap64_b grow_cell grow_frozen

/-! ### Plain law -/
theorem path_fold (l : List (List UInt8)) (k : Nat) (hk : k < l.length) (h : l.length ≤ 1099511627776) : foldP l[k] (k : Int) (l.length : Int) (pathS l k) = (rootS l, true) := by
  have hlong : Way.longI (k : Int) (l.length : Int) = ((pathS l k).length : Int) := by
    unfold Way.longI
    rw [if_neg (by omega), Way.path_length nodeB emptyB l.length l k rfl]
    simp
  have ht : Way.turnsI (k : Int) (l.length : Int) = Way.turns k l.length := by
    unfold Way.turnsI
    rw [if_neg (by omega)]
    simp
  have h1 : foldP l[k] (k : Int) (l.length : Int) (pathS l k) = _ := if_pos hlong
  rw [h1, ht, Way.fold_path nodeB emptyB l.length l k hk rfl]
/-- What twin.Leaves tells where both come to one hash. -/
theorem leaves_tell (m n : Int) (a x y : List UInt8) (p q : List (List UInt8)) (ha : a.length = 32) (hx : x.length = 32) (hp : AllH p) (hq : AllH q) (h1 : foldP a m n p = (y, true)) (h2 : foldP x m n q = (y, true)) :
    (a = x ∧ p = q → leavesP m n a x p q = none) ∧ (¬ (a = x ∧ p = q) → ∃ r s, leavesP m n a x p q = some (r, s)) := by
  have l1 : Way.longI m n = (p.length : Int) := by
    unfold foldP at h1
    split at h1
    · assumption
    · cases h1
  have l2 : Way.longI m n = (q.length : Int) := by
    unfold foldP at h2
    split at h2
    · assumption
    · cases h2
  have hTl := Way.turnsI_length m n (by omega)
  have f1 : Way.foldW nodeB a (Way.turnsI m n) p = y := by
    have : foldP a m n p = _ := if_pos l1
    rw [this] at h1
    injection h1
  have f2 : Way.foldW nodeB x (Way.turnsI m n) q = y := by
    have : foldP x m n q = _ := if_pos l2
    rw [this] at h2
    injection h2
  have hL : leavesP m n a x p q = firstO (wayS a (Way.turnsI m n) p) (wayS x (Way.turnsI m n) q) := by
    unfold leavesP
    rw [h1, h2]
    simp
  refine ⟨fun h => ?_, fun h => ?_⟩
  · obtain ⟨rfl, rfl⟩ := h
    rw [hL]
    exact first_same _
  · have := meet32 (Way.turnsI m n) p q a x ha hx hp hq (by omega) (by omega) (f1.trans f2.symm) (by
      by_cases h' : a = x
      · exact .inr (fun h2 => h ⟨h', h2⟩)
      · exact .inl h')
    rw [hL]
    cases hf : firstO (wayS a (Way.turnsI m n) p) (wayS x (Way.turnsI m n) q) with
    | none => rw [hf] at this; cases this
    | some rs => exact ⟨rs.1, rs.2, rfl⟩
theorem cl_mid {w : World} {g : Nat} {t : TypeId} {x : List UInt8} {c : Value} (h : Blk w g t (hcells x ++ [c]).toArray) : w.rangeAt g 0 (hcells x) := fun j v hv => by
  rw [Nat.zero_add, Blk.cell h j]
  have hj := (List.getElem?_eq_some_iff.1 hv).1
  simp only [List.getElem?_toArray]
  rw [List.getElem?_append_left hj]
  exact hv
theorem cl_cell {w : World} {g : Nat} {t : TypeId} {x : List UInt8} {c : Value} (hx : x.length = 32) (h : Blk w g t (hcells x ++ [c]).toArray) : w.cell? ⟨g, 32, none⟩ = some c := by
  have := Blk.cell h 32
  rw [this]
  simp only [List.getElem?_toArray]
  rw [List.getElem?_append_right (by rw [hcells_length, hx]; exact Nat.le_refl _)]
  simp [hcells_length, hx]

/-! ### The walk -/
set_option maxHeartbeats 16000000 in
theorem walk (v : Value) (l : List (List UInt8)) (n : Int) (x : List UInt8) (hx : x.length = 32) (cq : Value) (q : List (List UInt8)) (hl : AllH l) (hq : AllH q) (hn0 : -9223372036854775808 ≤ n) (hn1 : n ≤ 9223372036854775807) (w : World) (KW : Keys w) (h : SlS w w.heap.size v l) (hQ : SlS w w.heap.size cq q) :
    Calls Tryd.prog 11 #[v, .int .i64 n, .agg (hcells x ++ [cq]).toArray] w fun e w' => e = .returned (.bool true) ∧ Ext w w' := by
  have hgw := guard_sum
  have hQ0 := hQ
  obtain ⟨A, cap, rfl, hA, hc, hc63, hr⟩ := h
  obtain ⟨Pq, kq, rfl, hPq, hcq, hcq63, hrq⟩ := hQ
  by_cases hcut : 20 < l.length
  · have hcI0 : (20 : Int) < (l.length : Int) := by omega
    go_enter Tryd.func11, Tryd.ntmps11
    go_wp2_with fail
    have hM : Blk (w.alloc (.cells (hcells x ++ [Value.slice Pq q.length kq]).toArray 62)) w.heap.size 62 (hcells x ++ [Value.slice Pq q.length kq]).toArray := Blk.new _ _ _
    have hE : Ext w (w.alloc (.cells (hcells x ++ [Value.slice Pq q.length kq]).toArray 62)) := (Ext.refl w).alloc _
    generalize w.alloc (.cells (hcells x ++ [Value.slice Pq q.length kq]).toArray 62) = w1 at *
    refine (awake13_calls _ (KW.ext hE)).mono ?_; rintro e v2 ⟨rfl, e1⟩
    replace hM := Blk.below hM e1 (Blk.lt hM)
    replace hE := hE.trans e1
    clear e1
    have cq1 : v2.cell? ⟨w.heap.size, 32, none⟩ = some (.slice Pq q.length kq) := cl_cell hx hM
    have hmx : v2.rangeAt w.heap.size 0 (hcells x) := cl_mid hM
    have hml := Blk.lt hM
    rcases hA with ⟨_, hl1, _⟩ | ⟨b, off, rfl⟩
    · rw [hl1] at hcut; simp at hcut
    have hf := hl.take 20
    have hfl : (l.take 20).length = 20 := by rw [List.length_take]; omega
    have hcI : (20 : Int) ≤ (cap : Int) := by omega
    have hS8 : ∀ W, Ext w W → SlS W W.heap.size (.slice (some ⟨b, off, none⟩) 20 cap) (l.take 20) := fun W hW => (sls_take hl hc hc63 (hr.below hW (Nat.le_refl _)) 20 (by omega)).more hW.size
    generalize l.take 20 = f at *
    have hf20 : f.length ≤ 20 := by omega
    obtain ⟨r, hr'⟩ : ∃ r, r = n.tmod 20 := ⟨_, rfl⟩
    have hr1 : r < 20 := by rw [hr']; exact Int.tmod_lt_of_pos n (by omega)
    have hr0 : -20 < r := by
      have := Int.lt_tmod_of_pos n (show (0 : Int) < 20 by omega)
      omega
    replace hr' := hr'.symm
    by_cases hneg : r < 0
    · obtain ⟨k, hk⟩ : ∃ k : Nat, -r = (k : Int) := ⟨(-r).toNat, by omega⟩
      have hkm : k < f.length := by omega
      have hkI : (k : Int) < 20 := by omega
      have hnn := hneg
      go_wp2_with fail
      clear hr' hr0 hr1
      have hpf := path_fold f k hkm (by omega)
      rw [hfl] at hpf
      rw [show ((20 : Nat) : Int) = 20 from rfl] at hpf
      have hq32 : f[k].length = 32 := hf _ (List.getElem_mem hkm)
      have hpl := pathS_le f k
      have hpa := path_all _ f k rfl hf
      have hSw := hS8 w (Ext.refl w)
      obtain ⟨A', cap', hv', -, -, -, hrw⟩ := hSw
      injection hv' with v1 v2 v3
      subst v1
      obtain ⟨b', off', hbo, hbl, hm0⟩ := rds_mid hrw hf (k := k) hkm
      injection hbo with hbo
      injection hbo with b1 b2 b3
      subst b1 b2
      clear v2 v3 b3 hrw
      generalize f[k] = a at *
      obtain ⟨p, hp⟩ : ∃ p, p = pathS f k := ⟨_, rfl⟩
      have Hp := Lib.hid hp
      rw [← hp] at hpf hpl hpa
      clear hp
      refine (refPath_calls _ f k (by omega) hkm hf _ (hS8 _ hE)).mono ?_; rw [← Hp.out]; rintro e w3 ⟨v3, rfl, hP, e3⟩
      obtain ⟨Ap, cp, hv3, _⟩ := id hP
      subst hv3
      replace hM := Blk.below hM e3 (Blk.lt hM)
      replace hE := hE.trans e3
      replace cq1 : w3.cell? ⟨w.heap.size, 32, none⟩ = some (.slice Pq q.length kq) := cl_cell hx hM
      replace hmx : w3.rangeAt w.heap.size 0 (hcells x) := cl_mid hM
      replace hml := Blk.lt hM
      clear e3
      have hma : w3.rangeAt b (off + k * 32) (hcells a) := fun i u hu => ((ext_cells hE).1 b _ hbl).trans (hm0 i u hu)
      have hbl2 : b < w3.heap.size := Nat.lt_of_lt_of_le hbl hE.size
      have hpx := foldP_length x hx (k : Int) 20 q
      obtain ⟨P, hP1⟩ : ∃ P, P = foldP x (k : Int) 20 q := ⟨_, rfl⟩
      rw [← hP1] at hpx
      obtain ⟨y, is⟩ := P
      have hy : y.length = 32 := hpx
      have HP1 := Lib.hid hP1
      have HPF := Lib.hid hpf
      clear hpx hP1 hpf
      go_wp2_with (refine stop_load 23 (.tmp 43) rfl ?_)
      refine ⟨?_⟩
      refine wpList_load_mid rfl 23 (.tmp 43) rfl w.heap.size (0) (by rfl) (hcells x) _ hmx Tryd.underlying23 rfl (size32l _ hx) ?_
      simp only [Act.put, List.setIfInBounds_toArray, List.set_cons_zero, List.set_cons_succ]
      unfold hcells
      go_wp2_with fail
      change Calls _ _ #[sumV x, _, _, _] _ _
      refine (refFold_any x hx (k : Int) 20 (by omega) _ q hq _ (hQ0.ext hE)).mono ?_; rw [← HP1.out]; rintro e v4 ⟨rfl, e3⟩
      replace hM := Blk.below hM e3 (Blk.lt hM)
      replace hP := hP.ext e3
      replace hE := hE.trans e3
      replace cq1 : v4.cell? ⟨w.heap.size, 32, none⟩ = some (.slice Pq q.length kq) := cl_cell hx hM
      replace hmx : v4.rangeAt w.heap.size 0 (hcells x) := cl_mid hM
      replace hml := Blk.lt hM
      replace hma : v4.rangeAt b (off + k * 32) (hcells a) := fun i u hu => ((ext_cells hE).1 b _ hbl).trans (hm0 i u hu)
      replace hbl2 : b < v4.heap.size := Nat.lt_of_lt_of_le hbl hE.size
      clear e3
      try unfold sumV
      go_wp2_with (refine stop_store 23 (.tmp 12) (.tmp 51) rfl ?_)
      refine ⟨?_⟩
      change wpList _ _ _ _ _ (v4.alloc (.cells ((zerosB 32).map byteV).toArray 23))
      have hY0 : ArrB (v4.alloc (.cells ((zerosB 32).map byteV).toArray 23)) v4.heap.size 23 (zerosB 32) := Blk.new _ _ _
      refine wpList_store_row rfl 23 (.tmp 12) (.tmp 51) rfl v4.heap.size ((y).map byteV).toArray (by rfl) (by rfl) 23 _ hY0 (size32.trans (by simp [hy])) (by simp [hy, zerosB]) (by simp [byteV, Value.oneCell']) ?_
      simp only [Act.put, List.setIfInBounds_toArray, List.set_cons_zero, List.set_cons_succ]
      have hY : ArrB ((v4.alloc (.cells ((zerosB 32).map byteV).toArray 23)).setRow v4.heap.size ((y).map byteV).toArray) v4.heap.size 23 (y) := Blk.row hY0 _
      have e6 : Ext v4 ((v4.alloc (.cells ((zerosB 32).map byteV).toArray 23)).setRow v4.heap.size ((y).map byteV).toArray) := ((Ext.refl v4).alloc _).row (Nat.le_refl _) _
      clear hY0
      generalize (v4.alloc (.cells ((zerosB 32).map byteV).toArray 23)).setRow v4.heap.size ((y).map byteV).toArray = v5 at *
      have g7l := Blk.lt hY
      obtain ⟨g7, g7e⟩ : ∃ g7, g7 = v4.heap.size := ⟨_, rfl⟩
      rw [← g7e] at hY g7l
      try rw [← g7e]
      have g7b : v4.heap.size ≤ g7 := by omega
      replace hM := Blk.below hM e6 (Blk.lt hM)
      replace hP := hP.ext e6
      replace hE := hE.trans e6
      replace cq1 : v5.cell? ⟨w.heap.size, 32, none⟩ = some (.slice Pq q.length kq) := cl_cell hx hM
      replace hmx : v5.rangeAt w.heap.size 0 (hcells x) := cl_mid hM
      replace hml := Blk.lt hM
      replace hma : v5.rangeAt b (off + k * 32) (hcells a) := fun i u hu => ((ext_cells hE).1 b _ hbl).trans (hm0 i u hu)
      replace hbl2 : b < v5.heap.size := Nat.lt_of_lt_of_le hbl hE.size
      clear e6
      clear g7e
      go_wp2_with fail
      cases is
      · skip
        refine region_keep0 (fun _ => True) (by kernel_rfl) (by kernel_rfl) ?_
        repeat (first | (refine mix_quiet (by rfl) (by rfl) (fun K hK => ?_); go_big_quiet_op; refine hK _ ?_; clear hK K) | (refine mix_skip (by rfl) ?_; simp only [Act.put, List.setIfInBounds_toArray, List.set_cons_zero, List.set_cons_succ]))
        refine mix_nil ?_
        go_wp2_with fail
        go_ret
        exact ⟨rfl, hE.trans (Ext.refl _).drew⟩
      have hrl := rootS_length f hf
      obtain ⟨z, hz⟩ : ∃ z, z = rootS f := ⟨_, rfl⟩
      rw [← hz] at hrl HPF
      have Hz := Lib.hid hz
      clear hz
      have heqz := fun w : World => eq_sum y z hy hrl w
      have hqn := fold_len x (k : Int) 20 q (by omega) (by rw [← HP1.out])
      by_cases hyz : y = z
      · have dz : decide (y = z) = true := decide_eq_true hyz
        subst hyz
        rw [dz] at heqz
        clear dz
        have hLT := leaves_tell (k : Int) 20 a x y p q hq32 hx hpa hq HPF.out HP1.out.symm
        refine region_keep0 (fun _ => True) (by kernel_rfl) (by kernel_rfl) ?_
        have K0 : Ext v5 v5.drew := (Ext.refl v5).drew
        iterate 3 (first | (refine mix_quiet (by rfl) (by rfl) (fun K hK => ?_); go_big_quiet_op; refine hK _ ?_; clear hK K) | (refine mix_skip (by rfl) ?_; simp only [Act.put, List.setIfInBounds_toArray, List.set_cons_zero, List.set_cons_succ]))
        refine held_row (by rfl) (by rfl) 23 (.tmp 12) rfl g7 (by rfl) 23 _ _ hY trivial Tryd.underlying23 rfl (size32.trans (by simp [hy])) ?_
        simp only [Act.put, List.setIfInBounds_toArray, List.set_cons_zero, List.set_cons_succ]
        iterate 1 (first | (refine mix_quiet (by rfl) (by rfl) (fun K hK => ?_); go_big_quiet_op; refine hK _ ?_; clear hK K) | (refine mix_skip (by rfl) ?_; simp only [Act.put, List.setIfInBounds_toArray, List.set_cons_zero, List.set_cons_succ]))
        (refine mix_loud (by rfl) (by rfl) (fun K E hK => ?_); go_big_op)
        refine (refRoot_calls _ f hf _ (hS8 _ (hE.trans K0))).mono ?_; rw [← Hz.out]; rintro e u1 ⟨rfl, K1⟩
        have K1 := K0.trans K1
        refine hK _ _ (held_of (Keep.of_ext K1)) ?_; clear hK K E
        unfold sumV
        repeat (first | (refine mix_quiet (by rfl) (by rfl) (fun K hK => ?_); go_big_quiet_op; refine hK _ ?_; clear hK K) | (refine mix_skip (by rfl) ?_; simp only [Act.put, List.setIfInBounds_toArray, List.set_cons_zero, List.set_cons_succ]))
        refine mix_nil ?_
        clear K0
        replace hM := Blk.below hM K1 (Blk.lt hM)
        replace hP := hP.ext K1
        replace hY := Blk.below hY K1 (Blk.lt hY)
        replace hE := hE.trans K1
        replace cq1 : u1.cell? ⟨w.heap.size, 32, none⟩ = some (.slice Pq q.length kq) := cl_cell hx hM
        replace hmx : u1.rangeAt w.heap.size 0 (hcells x) := cl_mid hM
        replace hml := Blk.lt hM
        replace hma : u1.rangeAt b (off + k * 32) (hcells a) := fun i u hu => ((ext_cells hE).1 b _ hbl).trans (hm0 i u hu)
        replace hbl2 : b < u1.heap.size := Nat.lt_of_lt_of_le hbl hE.size
        clear K1
        have heqx := fun w : World => eq_sum x a hx hq32 w
        by_cases hpq : p = q
        · have HPQ : Hid (decide (p = q) = true) := Lib.hid (decide_eq_true hpq)
          by_cases hax : a = x
          · have HL := Lib.hid (hLT.1 ⟨hax, hpq⟩)
            have dx : decide (x = a) = true := decide_eq_true hax.symm
            rw [dx] at heqx
            clear dx hax hpq hLT
            go_wp2_with fail
            refine (Same_calls _ _ p q hpa hq _ hP (hQ0.ext hE)).mono ?_; rw [HPQ.out]; rintro e v9 ⟨rfl, e8⟩
            replace hM := Blk.below hM e8 (Blk.lt hM)
            replace hP := hP.ext e8
            replace hY := Blk.below hY e8 (Blk.lt hY)
            replace hE := hE.trans e8
            replace cq1 : v9.cell? ⟨w.heap.size, 32, none⟩ = some (.slice Pq q.length kq) := cl_cell hx hM
            replace hmx : v9.rangeAt w.heap.size 0 (hcells x) := cl_mid hM
            replace hml := Blk.lt hM
            replace hma : v9.rangeAt b (off + k * 32) (hcells a) := fun i u hu => ((ext_cells hE).1 b _ hbl).trans (hm0 i u hu)
            replace hbl2 : b < v9.heap.size := Nat.lt_of_lt_of_le hbl hE.size
            clear e8
            go_wp2_with fail
            refine region_plan 19 (Plan.run [0, 1, 2, 3, 4, 5, 6, 7, 8, 9, 10, 11] (.two 12 16 (Plan.run [13, 14, 16, 17, 15, 18] .nil) (Plan.run [12, 13, 14, 17, 15, 18] .nil))) (by kernel_rfl) (by kernel_rfl) (fun y0 => ?_); simp only [Plan.run, List.drop_succ_cons, List.drop_zero, List.drop_nil]
            iterate 6 (first | (refine plan_quiet (by simp only [List.getElem?_toArray, List.getElem?_cons_zero, List.getElem?_cons_succ]; rfl) (by rfl) (by rfl) (fun K hK => ?_); go_big_quiet_op; refine hK _ ?_; clear hK K) | (refine plan_skip (by simp only [List.getElem?_toArray, List.getElem?_cons_zero, List.getElem?_cons_succ]; rfl) (by rfl) ?_; simp only [Act.put, List.setIfInBounds_toArray, List.set_cons_zero, List.set_cons_succ]))
            refine plan_mid (by simp only [List.getElem?_toArray, List.getElem?_cons_zero, List.getElem?_cons_succ]; rfl) (by rfl) (by rfl) 23 (.tmp 72) rfl b (off + k * 32) (by rfl) _ _ hma hbl2 Tryd.underlying23 rfl (size32l _ hq32) ?_
            simp only [Act.put, List.setIfInBounds_toArray, List.set_cons_zero, List.set_cons_succ]
            iterate 1 (first | (refine plan_quiet (by simp only [List.getElem?_toArray, List.getElem?_cons_zero, List.getElem?_cons_succ]; rfl) (by rfl) (by rfl) (fun K hK => ?_); go_big_quiet_op; refine hK _ ?_; clear hK K) | (refine plan_skip (by simp only [List.getElem?_toArray, List.getElem?_cons_zero, List.getElem?_cons_succ]; rfl) (by rfl) ?_; simp only [Act.put, List.setIfInBounds_toArray, List.set_cons_zero, List.set_cons_succ]))
            refine plan_mid (by simp only [List.getElem?_toArray, List.getElem?_cons_zero, List.getElem?_cons_succ]; rfl) (by rfl) (by rfl) 23 (.tmp 74) rfl w.heap.size 0 (by rfl) _ _ hmx hml Tryd.underlying23 rfl (size32l _ hx) ?_
            simp only [Act.put, List.setIfInBounds_toArray, List.set_cons_zero, List.set_cons_succ]
            unfold hcells
            iterate 3 (first | (refine plan_quiet (by simp only [List.getElem?_toArray, List.getElem?_cons_zero, List.getElem?_cons_succ]; rfl) (by rfl) (by rfl) (fun K hK => ?_); go_big_quiet_op; refine hK _ ?_; clear hK K) | (refine plan_skip (by simp only [List.getElem?_toArray, List.getElem?_cons_zero, List.getElem?_cons_succ]; rfl) (by rfl) ?_; simp only [Act.put, List.setIfInBounds_toArray, List.set_cons_zero, List.set_cons_succ]))
            refine plan_two ?_ ?_
            · skip
              (refine plan_loud (by simp only [List.getElem?_toArray, List.getElem?_cons_zero, List.getElem?_cons_succ]; rfl) (by rfl) (by rfl) (fun K E hK => ?_); go_big_op)
              change Calls _ _ #[_, _, sumV a, sumV x, _, _] _ _
              refine (Leaves_calls (k : Int) 20 (by omega) a x hq32 hx _ _ p q hpa hq (by omega) hqn _ (KW.ext (hE.trans (grow_ext y0))) (hP.ext (grow_ext y0)) (hQ0.ext (hE.trans (grow_ext y0)))).mono ?_; rw [HL.out, twC_none]; rintro e w5 ⟨rfl, hd⟩
              obtain ⟨y1, rfl⟩ := more_ext _ hd; clear hd
              refine hK _ _ ⟨_, rfl⟩ ?_; clear hK K E
              iterate 2 (first | (refine plan_quiet (by simp only [List.getElem?_toArray, List.getElem?_cons_zero, List.getElem?_cons_succ]; rfl) (by rfl) (by rfl) (fun K hK => ?_); go_big_quiet_op; refine hK _ ?_; clear hK K) | (refine plan_skip (by simp only [List.getElem?_toArray, List.getElem?_cons_zero, List.getElem?_cons_succ]; rfl) (by rfl) ?_; simp only [Act.put, List.setIfInBounds_toArray, List.set_cons_zero, List.set_cons_succ]))
              refine plan_one ?_
              (refine plan_loud (by simp only [List.getElem?_toArray, List.getElem?_cons_zero, List.getElem?_cons_succ]; rfl) (by rfl) (by rfl) (fun K E hK => ?_); go_big_op)
              obtain ⟨y2, hy2⟩ := more_of ((grow_ext y1).alloc (.cells #[.string (bs []), .string (bs [])] 57))
              have hN := Blk.new (grow v9 y1) 57 #[.string (bs []), .string (bs [])]
              have hgb : v9.heap.size ≤ (grow v9 y1).heap.size := (grow_ext y1).size
              change K _ ((grow v9 y1).alloc (.cells #[.string (bs []), .string (bs [])] 57))
              rw [hy2] at hN ⊢
              generalize (grow v9 y1).heap.size = gN at *
              clear hy2
              refine hK _ _ ⟨_, rfl⟩ ?_; clear hK K E
              have hN0 : (grow v9 y2).cell? ⟨gN, 0, none⟩ = some (.string (bs [])) := Blk.cell hN 0
              have hN1 : (grow v9 y2).cell? ⟨gN, 1, none⟩ = some (.string (bs [])) := Blk.cell hN 1
              have f0 := Blk.frozen hN 0
              have f1 := Blk.frozen hN 1
              have hNl := Blk.lt hN
              refine plan_one ?_
              (refine plan_loud (by simp only [List.getElem?_toArray, List.getElem?_cons_zero, List.getElem?_cons_succ]; rfl) (by rfl) (by rfl) (fun K E hK => ?_); go_big_op)
              obtain ⟨y3, hy3⟩ := more_of (((grow_ext y2).setCell (p := ⟨gN, 0, none⟩) hgb (.string (bs []))).setCell (p := ⟨gN, 1, none⟩) hgb (.string (bs [])))
              change K _ (((grow v9 y2).setCell ⟨gN, 0, none⟩ (.string (bs []))).setCell ⟨gN, 1, none⟩ (.string (bs [])))
              rw [hy3]
              refine hK _ _ ⟨_, rfl⟩ ?_; clear hK K E
              clear hy3 hN0 hN1 f0 f1 hNl hN
              iterate 2 (first | (refine plan_quiet (by simp only [List.getElem?_toArray, List.getElem?_cons_zero, List.getElem?_cons_succ]; rfl) (by rfl) (by rfl) (fun K hK => ?_); go_big_quiet_op; refine hK _ ?_; clear hK K) | (refine plan_skip (by simp only [List.getElem?_toArray, List.getElem?_cons_zero, List.getElem?_cons_succ]; rfl) (by rfl) ?_; simp only [Act.put, List.setIfInBounds_toArray, List.set_cons_zero, List.set_cons_succ]))
              refine plan_nil ?_
              have eF := grow_ext y3
              generalize grow v9 y3 = w10 at *
              replace hM := Blk.below hM eF (Blk.lt hM)
              replace hE := hE.trans eF
              clear hma hbl2 hmx hml cq1 eF
              have hma : w10.rangeAt b (off + k * 32) (hcells a) := fun i u hu => ((ext_cells hE).1 b _ hbl).trans (hm0 i u hu)
              have hbl2 : b < w10.heap.size := Nat.lt_of_lt_of_le hbl hE.size
              have hmx : w10.rangeAt w.heap.size 0 (hcells x) := cl_mid hM
              go_wp2_with fail
              refine region_keep0 (fun _ => True) (by kernel_rfl) (by kernel_rfl) ?_
              iterate 6 (first | (refine mix_quiet (by rfl) (by rfl) (fun K hK => ?_); go_big_quiet_op; refine hK _ ?_; clear hK K) | (refine mix_skip (by rfl) ?_; simp only [Act.put, List.setIfInBounds_toArray, List.set_cons_zero, List.set_cons_succ]))
              refine held_mid (by rfl) (by rfl) 23 (.tmp 87) rfl w.heap.size 0 (by rfl) (hcells x) _ hmx (Blk.lt hM) trivial Tryd.underlying23 rfl (size32l _ hx) ?_
              simp only [Act.put, List.setIfInBounds_toArray, List.set_cons_zero, List.set_cons_succ]
              iterate 3 (first | (refine mix_quiet (by rfl) (by rfl) (fun K hK => ?_); go_big_quiet_op; refine hK _ ?_; clear hK K) | (refine mix_skip (by rfl) ?_; simp only [Act.put, List.setIfInBounds_toArray, List.set_cons_zero, List.set_cons_succ]))
              refine held_mid (by rfl) (by rfl) 23 (.tmp 91) rfl b (off + k * 32) (by rfl) (hcells a) _ hma hbl2 trivial Tryd.underlying23 rfl (size32l _ hq32) ?_
              simp only [Act.put, List.setIfInBounds_toArray, List.set_cons_zero, List.set_cons_succ]
              unfold hcells
              repeat (first | (refine mix_quiet (by rfl) (by rfl) (fun K hK => ?_); go_big_quiet_op; refine hK _ ?_; clear hK K) | (refine mix_skip (by rfl) ?_; simp only [Act.put, List.setIfInBounds_toArray, List.set_cons_zero, List.set_cons_succ]))
              refine mix_nil ?_
              go_wp2_with fail
              go_ret
              exact ⟨rfl, hE.trans (Ext.refl _).drew⟩
            · skip
              (refine plan_loud (by simp only [List.getElem?_toArray, List.getElem?_cons_zero, List.getElem?_cons_succ]; rfl) (by rfl) (by rfl) (fun K E hK => ?_); go_big_op)
              obtain ⟨y1, hy1⟩ := more_of ((grow_ext y0).alloc (.cells #[.string (bs []), .string (bs [])] 57))
              have hN := Blk.new (grow v9 y0) 57 #[.string (bs []), .string (bs [])]
              have hgb : v9.heap.size ≤ (grow v9 y0).heap.size := (grow_ext y0).size
              change K _ ((grow v9 y0).alloc (.cells #[.string (bs []), .string (bs [])] 57))
              rw [hy1] at hN ⊢
              generalize (grow v9 y0).heap.size = gN at *
              clear hy1
              refine hK _ _ ⟨_, rfl⟩ ?_; clear hK K E
              refine plan_one ?_
              (refine plan_loud (by simp only [List.getElem?_toArray, List.getElem?_cons_zero, List.getElem?_cons_succ]; rfl) (by rfl) (by rfl) (fun K E hK => ?_); go_big_op)
              change Calls _ _ #[_, _, sumV a, sumV x, _, _] _ _
              refine (Leaves_calls (k : Int) 20 (by omega) a x hq32 hx _ _ p q hpa hq (by omega) hqn _ (KW.ext (hE.trans (grow_ext y1))) (hP.ext (grow_ext y1)) (hQ0.ext (hE.trans (grow_ext y1)))).mono ?_; rw [HL.out, twC_none]; rintro e w5 ⟨rfl, hd⟩
              replace hN := Blk.below hN hd (Blk.lt hN)
              obtain ⟨y2, rfl⟩ := more_ext _ hd; clear hd
              refine hK _ _ ⟨_, rfl⟩ ?_; clear hK K E
              iterate 2 (first | (refine plan_quiet (by simp only [List.getElem?_toArray, List.getElem?_cons_zero, List.getElem?_cons_succ]; rfl) (by rfl) (by rfl) (fun K hK => ?_); go_big_quiet_op; refine hK _ ?_; clear hK K) | (refine plan_skip (by simp only [List.getElem?_toArray, List.getElem?_cons_zero, List.getElem?_cons_succ]; rfl) (by rfl) ?_; simp only [Act.put, List.setIfInBounds_toArray, List.set_cons_zero, List.set_cons_succ]))
              have hN0 : (grow v9 y2).cell? ⟨gN, 0, none⟩ = some (.string (bs [])) := Blk.cell hN 0
              have hN1 : (grow v9 y2).cell? ⟨gN, 1, none⟩ = some (.string (bs [])) := Blk.cell hN 1
              have f0 := Blk.frozen hN 0
              have f1 := Blk.frozen hN 1
              have hNl := Blk.lt hN
              refine plan_one ?_
              (refine plan_loud (by simp only [List.getElem?_toArray, List.getElem?_cons_zero, List.getElem?_cons_succ]; rfl) (by rfl) (by rfl) (fun K E hK => ?_); go_big_op)
              obtain ⟨y3, hy3⟩ := more_of (((grow_ext y2).setCell (p := ⟨gN, 0, none⟩) hgb (.string (bs []))).setCell (p := ⟨gN, 1, none⟩) hgb (.string (bs [])))
              change K _ (((grow v9 y2).setCell ⟨gN, 0, none⟩ (.string (bs []))).setCell ⟨gN, 1, none⟩ (.string (bs [])))
              rw [hy3]
              refine hK _ _ ⟨_, rfl⟩ ?_; clear hK K E
              clear hy3 hN0 hN1 f0 f1 hNl hN
              iterate 2 (first | (refine plan_quiet (by simp only [List.getElem?_toArray, List.getElem?_cons_zero, List.getElem?_cons_succ]; rfl) (by rfl) (by rfl) (fun K hK => ?_); go_big_quiet_op; refine hK _ ?_; clear hK K) | (refine plan_skip (by simp only [List.getElem?_toArray, List.getElem?_cons_zero, List.getElem?_cons_succ]; rfl) (by rfl) ?_; simp only [Act.put, List.setIfInBounds_toArray, List.set_cons_zero, List.set_cons_succ]))
              refine plan_nil ?_
              have eF := grow_ext y3
              generalize grow v9 y3 = w10 at *
              replace hM := Blk.below hM eF (Blk.lt hM)
              replace hE := hE.trans eF
              clear hma hbl2 hmx hml cq1 eF
              have hma : w10.rangeAt b (off + k * 32) (hcells a) := fun i u hu => ((ext_cells hE).1 b _ hbl).trans (hm0 i u hu)
              have hbl2 : b < w10.heap.size := Nat.lt_of_lt_of_le hbl hE.size
              have hmx : w10.rangeAt w.heap.size 0 (hcells x) := cl_mid hM
              go_wp2_with fail
              refine region_keep0 (fun _ => True) (by kernel_rfl) (by kernel_rfl) ?_
              iterate 6 (first | (refine mix_quiet (by rfl) (by rfl) (fun K hK => ?_); go_big_quiet_op; refine hK _ ?_; clear hK K) | (refine mix_skip (by rfl) ?_; simp only [Act.put, List.setIfInBounds_toArray, List.set_cons_zero, List.set_cons_succ]))
              refine held_mid (by rfl) (by rfl) 23 (.tmp 87) rfl w.heap.size 0 (by rfl) (hcells x) _ hmx (Blk.lt hM) trivial Tryd.underlying23 rfl (size32l _ hx) ?_
              simp only [Act.put, List.setIfInBounds_toArray, List.set_cons_zero, List.set_cons_succ]
              iterate 3 (first | (refine mix_quiet (by rfl) (by rfl) (fun K hK => ?_); go_big_quiet_op; refine hK _ ?_; clear hK K) | (refine mix_skip (by rfl) ?_; simp only [Act.put, List.setIfInBounds_toArray, List.set_cons_zero, List.set_cons_succ]))
              refine held_mid (by rfl) (by rfl) 23 (.tmp 91) rfl b (off + k * 32) (by rfl) (hcells a) _ hma hbl2 trivial Tryd.underlying23 rfl (size32l _ hq32) ?_
              simp only [Act.put, List.setIfInBounds_toArray, List.set_cons_zero, List.set_cons_succ]
              unfold hcells
              repeat (first | (refine mix_quiet (by rfl) (by rfl) (fun K hK => ?_); go_big_quiet_op; refine hK _ ?_; clear hK K) | (refine mix_skip (by rfl) ?_; simp only [Act.put, List.setIfInBounds_toArray, List.set_cons_zero, List.set_cons_succ]))
              refine mix_nil ?_
              go_wp2_with fail
              go_ret
              exact ⟨rfl, hE.trans (Ext.refl _).drew⟩
          · obtain ⟨rr, ss, hrs⟩ := hLT.2 (fun h => hax h.1)
            have HL := Lib.hid hrs
            have dx : decide (x = a) = false := decide_eq_false (fun h => hax h.symm)
            rw [dx] at heqx
            clear dx hax hpq hLT hrs
            go_wp2_with fail
            refine (Same_calls _ _ p q hpa hq _ hP (hQ0.ext hE)).mono ?_; rw [HPQ.out]; rintro e v9 ⟨rfl, e8⟩
            replace hM := Blk.below hM e8 (Blk.lt hM)
            replace hP := hP.ext e8
            replace hY := Blk.below hY e8 (Blk.lt hY)
            replace hE := hE.trans e8
            replace cq1 : v9.cell? ⟨w.heap.size, 32, none⟩ = some (.slice Pq q.length kq) := cl_cell hx hM
            replace hmx : v9.rangeAt w.heap.size 0 (hcells x) := cl_mid hM
            replace hml := Blk.lt hM
            replace hma : v9.rangeAt b (off + k * 32) (hcells a) := fun i u hu => ((ext_cells hE).1 b _ hbl).trans (hm0 i u hu)
            replace hbl2 : b < v9.heap.size := Nat.lt_of_lt_of_le hbl hE.size
            clear e8
            go_wp2_with fail
            refine region_plan 19 (Plan.run [0, 1, 2, 3, 4, 5, 6, 7, 8, 9, 10, 11] (.two 12 16 (Plan.run [13, 14, 16, 17, 15, 18] .nil) (Plan.run [12, 13, 14, 17, 15, 18] .nil))) (by kernel_rfl) (by kernel_rfl) (fun y0 => ?_); simp only [Plan.run, List.drop_succ_cons, List.drop_zero, List.drop_nil]
            iterate 6 (first | (refine plan_quiet (by simp only [List.getElem?_toArray, List.getElem?_cons_zero, List.getElem?_cons_succ]; rfl) (by rfl) (by rfl) (fun K hK => ?_); go_big_quiet_op; refine hK _ ?_; clear hK K) | (refine plan_skip (by simp only [List.getElem?_toArray, List.getElem?_cons_zero, List.getElem?_cons_succ]; rfl) (by rfl) ?_; simp only [Act.put, List.setIfInBounds_toArray, List.set_cons_zero, List.set_cons_succ]))
            refine plan_mid (by simp only [List.getElem?_toArray, List.getElem?_cons_zero, List.getElem?_cons_succ]; rfl) (by rfl) (by rfl) 23 (.tmp 72) rfl b (off + k * 32) (by rfl) _ _ hma hbl2 Tryd.underlying23 rfl (size32l _ hq32) ?_
            simp only [Act.put, List.setIfInBounds_toArray, List.set_cons_zero, List.set_cons_succ]
            iterate 1 (first | (refine plan_quiet (by simp only [List.getElem?_toArray, List.getElem?_cons_zero, List.getElem?_cons_succ]; rfl) (by rfl) (by rfl) (fun K hK => ?_); go_big_quiet_op; refine hK _ ?_; clear hK K) | (refine plan_skip (by simp only [List.getElem?_toArray, List.getElem?_cons_zero, List.getElem?_cons_succ]; rfl) (by rfl) ?_; simp only [Act.put, List.setIfInBounds_toArray, List.set_cons_zero, List.set_cons_succ]))
            refine plan_mid (by simp only [List.getElem?_toArray, List.getElem?_cons_zero, List.getElem?_cons_succ]; rfl) (by rfl) (by rfl) 23 (.tmp 74) rfl w.heap.size 0 (by rfl) _ _ hmx hml Tryd.underlying23 rfl (size32l _ hx) ?_
            simp only [Act.put, List.setIfInBounds_toArray, List.set_cons_zero, List.set_cons_succ]
            unfold hcells
            iterate 3 (first | (refine plan_quiet (by simp only [List.getElem?_toArray, List.getElem?_cons_zero, List.getElem?_cons_succ]; rfl) (by rfl) (by rfl) (fun K hK => ?_); go_big_quiet_op; refine hK _ ?_; clear hK K) | (refine plan_skip (by simp only [List.getElem?_toArray, List.getElem?_cons_zero, List.getElem?_cons_succ]; rfl) (by rfl) ?_; simp only [Act.put, List.setIfInBounds_toArray, List.set_cons_zero, List.set_cons_succ]))
            refine plan_two ?_ ?_
            · skip
              (refine plan_loud (by simp only [List.getElem?_toArray, List.getElem?_cons_zero, List.getElem?_cons_succ]; rfl) (by rfl) (by rfl) (fun K E hK => ?_); go_big_op)
              change Calls _ _ #[_, _, sumV a, sumV x, _, _] _ _
              refine (Leaves_calls (k : Int) 20 (by omega) a x hq32 hx _ _ p q hpa hq (by omega) hqn _ (KW.ext (hE.trans (grow_ext y0))) (hP.ext (grow_ext y0)) (hQ0.ext (hE.trans (grow_ext y0)))).mono ?_; rw [HL.out, twC_some]; rintro e w5 ⟨rfl, hd⟩
              obtain ⟨y1, rfl⟩ := more_ext _ hd; clear hd
              refine hK _ _ ⟨_, rfl⟩ ?_; clear hK K E
              iterate 2 (first | (refine plan_quiet (by simp only [List.getElem?_toArray, List.getElem?_cons_zero, List.getElem?_cons_succ]; rfl) (by rfl) (by rfl) (fun K hK => ?_); go_big_quiet_op; refine hK _ ?_; clear hK K) | (refine plan_skip (by simp only [List.getElem?_toArray, List.getElem?_cons_zero, List.getElem?_cons_succ]; rfl) (by rfl) ?_; simp only [Act.put, List.setIfInBounds_toArray, List.set_cons_zero, List.set_cons_succ]))
              refine plan_one ?_
              (refine plan_loud (by simp only [List.getElem?_toArray, List.getElem?_cons_zero, List.getElem?_cons_succ]; rfl) (by rfl) (by rfl) (fun K E hK => ?_); go_big_op)
              obtain ⟨y2, hy2⟩ := more_of ((grow_ext y1).alloc (.cells #[.string (bs []), .string (bs [])] 57))
              have hN := Blk.new (grow v9 y1) 57 #[.string (bs []), .string (bs [])]
              have hgb : v9.heap.size ≤ (grow v9 y1).heap.size := (grow_ext y1).size
              change K _ ((grow v9 y1).alloc (.cells #[.string (bs []), .string (bs [])] 57))
              rw [hy2] at hN ⊢
              generalize (grow v9 y1).heap.size = gN at *
              clear hy2
              refine hK _ _ ⟨_, rfl⟩ ?_; clear hK K E
              have hN0 : (grow v9 y2).cell? ⟨gN, 0, none⟩ = some (.string (bs [])) := Blk.cell hN 0
              have hN1 : (grow v9 y2).cell? ⟨gN, 1, none⟩ = some (.string (bs [])) := Blk.cell hN 1
              have f0 := Blk.frozen hN 0
              have f1 := Blk.frozen hN 1
              have hNl := Blk.lt hN
              refine plan_one ?_
              (refine plan_loud (by simp only [List.getElem?_toArray, List.getElem?_cons_zero, List.getElem?_cons_succ]; rfl) (by rfl) (by rfl) (fun K E hK => ?_); go_big_op)
              obtain ⟨y3, hy3⟩ := more_of (((grow_ext y2).setCell (p := ⟨gN, 0, none⟩) hgb (.string (bs rr))).setCell (p := ⟨gN, 1, none⟩) hgb (.string (bs ss)))
              change K _ (((grow v9 y2).setCell ⟨gN, 0, none⟩ (.string (bs rr))).setCell ⟨gN, 1, none⟩ (.string (bs ss)))
              rw [hy3]
              refine hK _ _ ⟨_, rfl⟩ ?_; clear hK K E
              clear hy3 hN0 hN1 f0 f1 hNl hN
              iterate 2 (first | (refine plan_quiet (by simp only [List.getElem?_toArray, List.getElem?_cons_zero, List.getElem?_cons_succ]; rfl) (by rfl) (by rfl) (fun K hK => ?_); go_big_quiet_op; refine hK _ ?_; clear hK K) | (refine plan_skip (by simp only [List.getElem?_toArray, List.getElem?_cons_zero, List.getElem?_cons_succ]; rfl) (by rfl) ?_; simp only [Act.put, List.setIfInBounds_toArray, List.set_cons_zero, List.set_cons_succ]))
              refine plan_nil ?_
              have eF := grow_ext y3
              generalize grow v9 y3 = w10 at *
              replace hM := Blk.below hM eF (Blk.lt hM)
              replace hE := hE.trans eF
              clear hma hbl2 hmx hml cq1 eF
              have hma : w10.rangeAt b (off + k * 32) (hcells a) := fun i u hu => ((ext_cells hE).1 b _ hbl).trans (hm0 i u hu)
              have hbl2 : b < w10.heap.size := Nat.lt_of_lt_of_le hbl hE.size
              have hmx : w10.rangeAt w.heap.size 0 (hcells x) := cl_mid hM
              go_wp2_with fail
              refine region_keep0 (fun _ => True) (by kernel_rfl) (by kernel_rfl) ?_
              iterate 6 (first | (refine mix_quiet (by rfl) (by rfl) (fun K hK => ?_); go_big_quiet_op; refine hK _ ?_; clear hK K) | (refine mix_skip (by rfl) ?_; simp only [Act.put, List.setIfInBounds_toArray, List.set_cons_zero, List.set_cons_succ]))
              refine held_mid (by rfl) (by rfl) 23 (.tmp 87) rfl w.heap.size 0 (by rfl) (hcells x) _ hmx (Blk.lt hM) trivial Tryd.underlying23 rfl (size32l _ hx) ?_
              simp only [Act.put, List.setIfInBounds_toArray, List.set_cons_zero, List.set_cons_succ]
              iterate 3 (first | (refine mix_quiet (by rfl) (by rfl) (fun K hK => ?_); go_big_quiet_op; refine hK _ ?_; clear hK K) | (refine mix_skip (by rfl) ?_; simp only [Act.put, List.setIfInBounds_toArray, List.set_cons_zero, List.set_cons_succ]))
              refine held_mid (by rfl) (by rfl) 23 (.tmp 91) rfl b (off + k * 32) (by rfl) (hcells a) _ hma hbl2 trivial Tryd.underlying23 rfl (size32l _ hq32) ?_
              simp only [Act.put, List.setIfInBounds_toArray, List.set_cons_zero, List.set_cons_succ]
              unfold hcells
              repeat (first | (refine mix_quiet (by rfl) (by rfl) (fun K hK => ?_); go_big_quiet_op; refine hK _ ?_; clear hK K) | (refine mix_skip (by rfl) ?_; simp only [Act.put, List.setIfInBounds_toArray, List.set_cons_zero, List.set_cons_succ]))
              refine mix_nil ?_
              go_wp2_with fail
              go_ret
              exact ⟨rfl, hE.trans (Ext.refl _).drew⟩
            · skip
              (refine plan_loud (by simp only [List.getElem?_toArray, List.getElem?_cons_zero, List.getElem?_cons_succ]; rfl) (by rfl) (by rfl) (fun K E hK => ?_); go_big_op)
              obtain ⟨y1, hy1⟩ := more_of ((grow_ext y0).alloc (.cells #[.string (bs []), .string (bs [])] 57))
              have hN := Blk.new (grow v9 y0) 57 #[.string (bs []), .string (bs [])]
              have hgb : v9.heap.size ≤ (grow v9 y0).heap.size := (grow_ext y0).size
              change K _ ((grow v9 y0).alloc (.cells #[.string (bs []), .string (bs [])] 57))
              rw [hy1] at hN ⊢
              generalize (grow v9 y0).heap.size = gN at *
              clear hy1
              refine hK _ _ ⟨_, rfl⟩ ?_; clear hK K E
              refine plan_one ?_
              (refine plan_loud (by simp only [List.getElem?_toArray, List.getElem?_cons_zero, List.getElem?_cons_succ]; rfl) (by rfl) (by rfl) (fun K E hK => ?_); go_big_op)
              change Calls _ _ #[_, _, sumV a, sumV x, _, _] _ _
              refine (Leaves_calls (k : Int) 20 (by omega) a x hq32 hx _ _ p q hpa hq (by omega) hqn _ (KW.ext (hE.trans (grow_ext y1))) (hP.ext (grow_ext y1)) (hQ0.ext (hE.trans (grow_ext y1)))).mono ?_; rw [HL.out, twC_some]; rintro e w5 ⟨rfl, hd⟩
              replace hN := Blk.below hN hd (Blk.lt hN)
              obtain ⟨y2, rfl⟩ := more_ext _ hd; clear hd
              refine hK _ _ ⟨_, rfl⟩ ?_; clear hK K E
              iterate 2 (first | (refine plan_quiet (by simp only [List.getElem?_toArray, List.getElem?_cons_zero, List.getElem?_cons_succ]; rfl) (by rfl) (by rfl) (fun K hK => ?_); go_big_quiet_op; refine hK _ ?_; clear hK K) | (refine plan_skip (by simp only [List.getElem?_toArray, List.getElem?_cons_zero, List.getElem?_cons_succ]; rfl) (by rfl) ?_; simp only [Act.put, List.setIfInBounds_toArray, List.set_cons_zero, List.set_cons_succ]))
              have hN0 : (grow v9 y2).cell? ⟨gN, 0, none⟩ = some (.string (bs [])) := Blk.cell hN 0
              have hN1 : (grow v9 y2).cell? ⟨gN, 1, none⟩ = some (.string (bs [])) := Blk.cell hN 1
              have f0 := Blk.frozen hN 0
              have f1 := Blk.frozen hN 1
              have hNl := Blk.lt hN
              refine plan_one ?_
              (refine plan_loud (by simp only [List.getElem?_toArray, List.getElem?_cons_zero, List.getElem?_cons_succ]; rfl) (by rfl) (by rfl) (fun K E hK => ?_); go_big_op)
              obtain ⟨y3, hy3⟩ := more_of (((grow_ext y2).setCell (p := ⟨gN, 0, none⟩) hgb (.string (bs rr))).setCell (p := ⟨gN, 1, none⟩) hgb (.string (bs ss)))
              change K _ (((grow v9 y2).setCell ⟨gN, 0, none⟩ (.string (bs rr))).setCell ⟨gN, 1, none⟩ (.string (bs ss)))
              rw [hy3]
              refine hK _ _ ⟨_, rfl⟩ ?_; clear hK K E
              clear hy3 hN0 hN1 f0 f1 hNl hN
              iterate 2 (first | (refine plan_quiet (by simp only [List.getElem?_toArray, List.getElem?_cons_zero, List.getElem?_cons_succ]; rfl) (by rfl) (by rfl) (fun K hK => ?_); go_big_quiet_op; refine hK _ ?_; clear hK K) | (refine plan_skip (by simp only [List.getElem?_toArray, List.getElem?_cons_zero, List.getElem?_cons_succ]; rfl) (by rfl) ?_; simp only [Act.put, List.setIfInBounds_toArray, List.set_cons_zero, List.set_cons_succ]))
              refine plan_nil ?_
              have eF := grow_ext y3
              generalize grow v9 y3 = w10 at *
              replace hM := Blk.below hM eF (Blk.lt hM)
              replace hE := hE.trans eF
              clear hma hbl2 hmx hml cq1 eF
              have hma : w10.rangeAt b (off + k * 32) (hcells a) := fun i u hu => ((ext_cells hE).1 b _ hbl).trans (hm0 i u hu)
              have hbl2 : b < w10.heap.size := Nat.lt_of_lt_of_le hbl hE.size
              have hmx : w10.rangeAt w.heap.size 0 (hcells x) := cl_mid hM
              go_wp2_with fail
              refine region_keep0 (fun _ => True) (by kernel_rfl) (by kernel_rfl) ?_
              iterate 6 (first | (refine mix_quiet (by rfl) (by rfl) (fun K hK => ?_); go_big_quiet_op; refine hK _ ?_; clear hK K) | (refine mix_skip (by rfl) ?_; simp only [Act.put, List.setIfInBounds_toArray, List.set_cons_zero, List.set_cons_succ]))
              refine held_mid (by rfl) (by rfl) 23 (.tmp 87) rfl w.heap.size 0 (by rfl) (hcells x) _ hmx (Blk.lt hM) trivial Tryd.underlying23 rfl (size32l _ hx) ?_
              simp only [Act.put, List.setIfInBounds_toArray, List.set_cons_zero, List.set_cons_succ]
              iterate 3 (first | (refine mix_quiet (by rfl) (by rfl) (fun K hK => ?_); go_big_quiet_op; refine hK _ ?_; clear hK K) | (refine mix_skip (by rfl) ?_; simp only [Act.put, List.setIfInBounds_toArray, List.set_cons_zero, List.set_cons_succ]))
              refine held_mid (by rfl) (by rfl) 23 (.tmp 91) rfl b (off + k * 32) (by rfl) (hcells a) _ hma hbl2 trivial Tryd.underlying23 rfl (size32l _ hq32) ?_
              simp only [Act.put, List.setIfInBounds_toArray, List.set_cons_zero, List.set_cons_succ]
              unfold hcells
              repeat (first | (refine mix_quiet (by rfl) (by rfl) (fun K hK => ?_); go_big_quiet_op; refine hK _ ?_; clear hK K) | (refine mix_skip (by rfl) ?_; simp only [Act.put, List.setIfInBounds_toArray, List.set_cons_zero, List.set_cons_succ]))
              refine mix_nil ?_
              go_wp2_with fail
              go_ret
              exact ⟨rfl, hE.trans (Ext.refl _).drew⟩
        · have HPQ : Hid (decide (p = q) = false) := Lib.hid (decide_eq_false hpq)
          obtain ⟨rr, ss, hrs⟩ := hLT.2 (fun h => hpq h.2)
          have HL := Lib.hid hrs
          clear hpq hLT hrs heqx
          go_wp2_with fail
          refine (Same_calls _ _ p q hpa hq _ hP (hQ0.ext hE)).mono ?_; rw [HPQ.out]; rintro e v9 ⟨rfl, e8⟩
          replace hM := Blk.below hM e8 (Blk.lt hM)
          replace hP := hP.ext e8
          replace hY := Blk.below hY e8 (Blk.lt hY)
          replace hE := hE.trans e8
          replace cq1 : v9.cell? ⟨w.heap.size, 32, none⟩ = some (.slice Pq q.length kq) := cl_cell hx hM
          replace hmx : v9.rangeAt w.heap.size 0 (hcells x) := cl_mid hM
          replace hml := Blk.lt hM
          replace hma : v9.rangeAt b (off + k * 32) (hcells a) := fun i u hu => ((ext_cells hE).1 b _ hbl).trans (hm0 i u hu)
          replace hbl2 : b < v9.heap.size := Nat.lt_of_lt_of_le hbl hE.size
          clear e8
          go_wp2_with fail
          refine region_plan 19 (Plan.run [0, 1, 2, 3, 4, 5, 6, 7, 8, 9, 10, 11] (.two 12 16 (Plan.run [13, 14, 16, 17, 15, 18] .nil) (Plan.run [12, 13, 14, 17, 15, 18] .nil))) (by kernel_rfl) (by kernel_rfl) (fun y0 => ?_); simp only [Plan.run, List.drop_succ_cons, List.drop_zero, List.drop_nil]
          iterate 6 (first | (refine plan_quiet (by simp only [List.getElem?_toArray, List.getElem?_cons_zero, List.getElem?_cons_succ]; rfl) (by rfl) (by rfl) (fun K hK => ?_); go_big_quiet_op; refine hK _ ?_; clear hK K) | (refine plan_skip (by simp only [List.getElem?_toArray, List.getElem?_cons_zero, List.getElem?_cons_succ]; rfl) (by rfl) ?_; simp only [Act.put, List.setIfInBounds_toArray, List.set_cons_zero, List.set_cons_succ]))
          refine plan_mid (by simp only [List.getElem?_toArray, List.getElem?_cons_zero, List.getElem?_cons_succ]; rfl) (by rfl) (by rfl) 23 (.tmp 72) rfl b (off + k * 32) (by rfl) _ _ hma hbl2 Tryd.underlying23 rfl (size32l _ hq32) ?_
          simp only [Act.put, List.setIfInBounds_toArray, List.set_cons_zero, List.set_cons_succ]
          iterate 1 (first | (refine plan_quiet (by simp only [List.getElem?_toArray, List.getElem?_cons_zero, List.getElem?_cons_succ]; rfl) (by rfl) (by rfl) (fun K hK => ?_); go_big_quiet_op; refine hK _ ?_; clear hK K) | (refine plan_skip (by simp only [List.getElem?_toArray, List.getElem?_cons_zero, List.getElem?_cons_succ]; rfl) (by rfl) ?_; simp only [Act.put, List.setIfInBounds_toArray, List.set_cons_zero, List.set_cons_succ]))
          refine plan_mid (by simp only [List.getElem?_toArray, List.getElem?_cons_zero, List.getElem?_cons_succ]; rfl) (by rfl) (by rfl) 23 (.tmp 74) rfl w.heap.size 0 (by rfl) _ _ hmx hml Tryd.underlying23 rfl (size32l _ hx) ?_
          simp only [Act.put, List.setIfInBounds_toArray, List.set_cons_zero, List.set_cons_succ]
          unfold hcells
          iterate 3 (first | (refine plan_quiet (by simp only [List.getElem?_toArray, List.getElem?_cons_zero, List.getElem?_cons_succ]; rfl) (by rfl) (by rfl) (fun K hK => ?_); go_big_quiet_op; refine hK _ ?_; clear hK K) | (refine plan_skip (by simp only [List.getElem?_toArray, List.getElem?_cons_zero, List.getElem?_cons_succ]; rfl) (by rfl) ?_; simp only [Act.put, List.setIfInBounds_toArray, List.set_cons_zero, List.set_cons_succ]))
          refine plan_two ?_ ?_
          · skip
            (refine plan_loud (by simp only [List.getElem?_toArray, List.getElem?_cons_zero, List.getElem?_cons_succ]; rfl) (by rfl) (by rfl) (fun K E hK => ?_); go_big_op)
            change Calls _ _ #[_, _, sumV a, sumV x, _, _] _ _
            refine (Leaves_calls (k : Int) 20 (by omega) a x hq32 hx _ _ p q hpa hq (by omega) hqn _ (KW.ext (hE.trans (grow_ext y0))) (hP.ext (grow_ext y0)) (hQ0.ext (hE.trans (grow_ext y0)))).mono ?_; rw [HL.out, twC_some]; rintro e w5 ⟨rfl, hd⟩
            obtain ⟨y1, rfl⟩ := more_ext _ hd; clear hd
            refine hK _ _ ⟨_, rfl⟩ ?_; clear hK K E
            iterate 2 (first | (refine plan_quiet (by simp only [List.getElem?_toArray, List.getElem?_cons_zero, List.getElem?_cons_succ]; rfl) (by rfl) (by rfl) (fun K hK => ?_); go_big_quiet_op; refine hK _ ?_; clear hK K) | (refine plan_skip (by simp only [List.getElem?_toArray, List.getElem?_cons_zero, List.getElem?_cons_succ]; rfl) (by rfl) ?_; simp only [Act.put, List.setIfInBounds_toArray, List.set_cons_zero, List.set_cons_succ]))
            refine plan_one ?_
            (refine plan_loud (by simp only [List.getElem?_toArray, List.getElem?_cons_zero, List.getElem?_cons_succ]; rfl) (by rfl) (by rfl) (fun K E hK => ?_); go_big_op)
            obtain ⟨y2, hy2⟩ := more_of ((grow_ext y1).alloc (.cells #[.string (bs []), .string (bs [])] 57))
            have hN := Blk.new (grow v9 y1) 57 #[.string (bs []), .string (bs [])]
            have hgb : v9.heap.size ≤ (grow v9 y1).heap.size := (grow_ext y1).size
            change K _ ((grow v9 y1).alloc (.cells #[.string (bs []), .string (bs [])] 57))
            rw [hy2] at hN ⊢
            generalize (grow v9 y1).heap.size = gN at *
            clear hy2
            refine hK _ _ ⟨_, rfl⟩ ?_; clear hK K E
            have hN0 : (grow v9 y2).cell? ⟨gN, 0, none⟩ = some (.string (bs [])) := Blk.cell hN 0
            have hN1 : (grow v9 y2).cell? ⟨gN, 1, none⟩ = some (.string (bs [])) := Blk.cell hN 1
            have f0 := Blk.frozen hN 0
            have f1 := Blk.frozen hN 1
            have hNl := Blk.lt hN
            refine plan_one ?_
            (refine plan_loud (by simp only [List.getElem?_toArray, List.getElem?_cons_zero, List.getElem?_cons_succ]; rfl) (by rfl) (by rfl) (fun K E hK => ?_); go_big_op)
            obtain ⟨y3, hy3⟩ := more_of (((grow_ext y2).setCell (p := ⟨gN, 0, none⟩) hgb (.string (bs rr))).setCell (p := ⟨gN, 1, none⟩) hgb (.string (bs ss)))
            change K _ (((grow v9 y2).setCell ⟨gN, 0, none⟩ (.string (bs rr))).setCell ⟨gN, 1, none⟩ (.string (bs ss)))
            rw [hy3]
            refine hK _ _ ⟨_, rfl⟩ ?_; clear hK K E
            clear hy3 hN0 hN1 f0 f1 hNl hN
            iterate 2 (first | (refine plan_quiet (by simp only [List.getElem?_toArray, List.getElem?_cons_zero, List.getElem?_cons_succ]; rfl) (by rfl) (by rfl) (fun K hK => ?_); go_big_quiet_op; refine hK _ ?_; clear hK K) | (refine plan_skip (by simp only [List.getElem?_toArray, List.getElem?_cons_zero, List.getElem?_cons_succ]; rfl) (by rfl) ?_; simp only [Act.put, List.setIfInBounds_toArray, List.set_cons_zero, List.set_cons_succ]))
            refine plan_nil ?_
            have eF := grow_ext y3
            generalize grow v9 y3 = w10 at *
            replace hM := Blk.below hM eF (Blk.lt hM)
            replace hE := hE.trans eF
            clear hma hbl2 hmx hml cq1 eF
            have hma : w10.rangeAt b (off + k * 32) (hcells a) := fun i u hu => ((ext_cells hE).1 b _ hbl).trans (hm0 i u hu)
            have hbl2 : b < w10.heap.size := Nat.lt_of_lt_of_le hbl hE.size
            have hmx : w10.rangeAt w.heap.size 0 (hcells x) := cl_mid hM
            go_wp2_with fail
            refine region_keep0 (fun _ => True) (by kernel_rfl) (by kernel_rfl) ?_
            repeat (first | (refine mix_quiet (by rfl) (by rfl) (fun K hK => ?_); go_big_quiet_op; refine hK _ ?_; clear hK K) | (refine mix_skip (by rfl) ?_; simp only [Act.put, List.setIfInBounds_toArray, List.set_cons_zero, List.set_cons_succ]))
            refine mix_nil ?_
            go_wp2_with fail
            go_ret
            exact ⟨rfl, hE.trans (Ext.refl _).drew⟩
          · skip
            (refine plan_loud (by simp only [List.getElem?_toArray, List.getElem?_cons_zero, List.getElem?_cons_succ]; rfl) (by rfl) (by rfl) (fun K E hK => ?_); go_big_op)
            obtain ⟨y1, hy1⟩ := more_of ((grow_ext y0).alloc (.cells #[.string (bs []), .string (bs [])] 57))
            have hN := Blk.new (grow v9 y0) 57 #[.string (bs []), .string (bs [])]
            have hgb : v9.heap.size ≤ (grow v9 y0).heap.size := (grow_ext y0).size
            change K _ ((grow v9 y0).alloc (.cells #[.string (bs []), .string (bs [])] 57))
            rw [hy1] at hN ⊢
            generalize (grow v9 y0).heap.size = gN at *
            clear hy1
            refine hK _ _ ⟨_, rfl⟩ ?_; clear hK K E
            refine plan_one ?_
            (refine plan_loud (by simp only [List.getElem?_toArray, List.getElem?_cons_zero, List.getElem?_cons_succ]; rfl) (by rfl) (by rfl) (fun K E hK => ?_); go_big_op)
            change Calls _ _ #[_, _, sumV a, sumV x, _, _] _ _
            refine (Leaves_calls (k : Int) 20 (by omega) a x hq32 hx _ _ p q hpa hq (by omega) hqn _ (KW.ext (hE.trans (grow_ext y1))) (hP.ext (grow_ext y1)) (hQ0.ext (hE.trans (grow_ext y1)))).mono ?_; rw [HL.out, twC_some]; rintro e w5 ⟨rfl, hd⟩
            replace hN := Blk.below hN hd (Blk.lt hN)
            obtain ⟨y2, rfl⟩ := more_ext _ hd; clear hd
            refine hK _ _ ⟨_, rfl⟩ ?_; clear hK K E
            iterate 2 (first | (refine plan_quiet (by simp only [List.getElem?_toArray, List.getElem?_cons_zero, List.getElem?_cons_succ]; rfl) (by rfl) (by rfl) (fun K hK => ?_); go_big_quiet_op; refine hK _ ?_; clear hK K) | (refine plan_skip (by simp only [List.getElem?_toArray, List.getElem?_cons_zero, List.getElem?_cons_succ]; rfl) (by rfl) ?_; simp only [Act.put, List.setIfInBounds_toArray, List.set_cons_zero, List.set_cons_succ]))
            have hN0 : (grow v9 y2).cell? ⟨gN, 0, none⟩ = some (.string (bs [])) := Blk.cell hN 0
            have hN1 : (grow v9 y2).cell? ⟨gN, 1, none⟩ = some (.string (bs [])) := Blk.cell hN 1
            have f0 := Blk.frozen hN 0
            have f1 := Blk.frozen hN 1
            have hNl := Blk.lt hN
            refine plan_one ?_
            (refine plan_loud (by simp only [List.getElem?_toArray, List.getElem?_cons_zero, List.getElem?_cons_succ]; rfl) (by rfl) (by rfl) (fun K E hK => ?_); go_big_op)
            obtain ⟨y3, hy3⟩ := more_of (((grow_ext y2).setCell (p := ⟨gN, 0, none⟩) hgb (.string (bs rr))).setCell (p := ⟨gN, 1, none⟩) hgb (.string (bs ss)))
            change K _ (((grow v9 y2).setCell ⟨gN, 0, none⟩ (.string (bs rr))).setCell ⟨gN, 1, none⟩ (.string (bs ss)))
            rw [hy3]
            refine hK _ _ ⟨_, rfl⟩ ?_; clear hK K E
            clear hy3 hN0 hN1 f0 f1 hNl hN
            iterate 2 (first | (refine plan_quiet (by simp only [List.getElem?_toArray, List.getElem?_cons_zero, List.getElem?_cons_succ]; rfl) (by rfl) (by rfl) (fun K hK => ?_); go_big_quiet_op; refine hK _ ?_; clear hK K) | (refine plan_skip (by simp only [List.getElem?_toArray, List.getElem?_cons_zero, List.getElem?_cons_succ]; rfl) (by rfl) ?_; simp only [Act.put, List.setIfInBounds_toArray, List.set_cons_zero, List.set_cons_succ]))
            refine plan_nil ?_
            have eF := grow_ext y3
            generalize grow v9 y3 = w10 at *
            replace hM := Blk.below hM eF (Blk.lt hM)
            replace hE := hE.trans eF
            clear hma hbl2 hmx hml cq1 eF
            have hma : w10.rangeAt b (off + k * 32) (hcells a) := fun i u hu => ((ext_cells hE).1 b _ hbl).trans (hm0 i u hu)
            have hbl2 : b < w10.heap.size := Nat.lt_of_lt_of_le hbl hE.size
            have hmx : w10.rangeAt w.heap.size 0 (hcells x) := cl_mid hM
            go_wp2_with fail
            refine region_keep0 (fun _ => True) (by kernel_rfl) (by kernel_rfl) ?_
            repeat (first | (refine mix_quiet (by rfl) (by rfl) (fun K hK => ?_); go_big_quiet_op; refine hK _ ?_; clear hK K) | (refine mix_skip (by rfl) ?_; simp only [Act.put, List.setIfInBounds_toArray, List.set_cons_zero, List.set_cons_succ]))
            refine mix_nil ?_
            go_wp2_with fail
            go_ret
            exact ⟨rfl, hE.trans (Ext.refl _).drew⟩
      · have dz : decide (y = z) = false := decide_eq_false hyz
        rw [dz] at heqz
        clear dz hyz
        refine region_keep0 (fun _ => True) (by kernel_rfl) (by kernel_rfl) ?_
        have K0 : Ext v5 v5.drew := (Ext.refl v5).drew
        iterate 3 (first | (refine mix_quiet (by rfl) (by rfl) (fun K hK => ?_); go_big_quiet_op; refine hK _ ?_; clear hK K) | (refine mix_skip (by rfl) ?_; simp only [Act.put, List.setIfInBounds_toArray, List.set_cons_zero, List.set_cons_succ]))
        refine held_row (by rfl) (by rfl) 23 (.tmp 12) rfl g7 (by rfl) 23 _ _ hY trivial Tryd.underlying23 rfl (size32.trans (by simp [hy])) ?_
        simp only [Act.put, List.setIfInBounds_toArray, List.set_cons_zero, List.set_cons_succ]
        iterate 1 (first | (refine mix_quiet (by rfl) (by rfl) (fun K hK => ?_); go_big_quiet_op; refine hK _ ?_; clear hK K) | (refine mix_skip (by rfl) ?_; simp only [Act.put, List.setIfInBounds_toArray, List.set_cons_zero, List.set_cons_succ]))
        (refine mix_loud (by rfl) (by rfl) (fun K E hK => ?_); go_big_op)
        refine (refRoot_calls _ f hf _ (hS8 _ (hE.trans K0))).mono ?_; rw [← Hz.out]; rintro e u1 ⟨rfl, K1⟩
        have K1 := K0.trans K1
        refine hK _ _ (held_of (Keep.of_ext K1)) ?_; clear hK K E
        unfold sumV
        repeat (first | (refine mix_quiet (by rfl) (by rfl) (fun K hK => ?_); go_big_quiet_op; refine hK _ ?_; clear hK K) | (refine mix_skip (by rfl) ?_; simp only [Act.put, List.setIfInBounds_toArray, List.set_cons_zero, List.set_cons_succ]))
        refine mix_nil ?_
        go_wp2_with fail
        go_ret
        exact ⟨rfl, hE.trans K1⟩
    · obtain ⟨k, rfl⟩ : ∃ k : Nat, r = (k : Int) := ⟨r.toNat, by omega⟩
      have hkm : k < f.length := by omega
      have hkI : (k : Int) < 20 := by omega
      have hneg2 : ¬ (k : Int) < 0 := by omega
      go_wp2_with fail
      clear hr' hr0 hr1
      have hpf := path_fold f k hkm (by omega)
      rw [hfl] at hpf
      rw [show ((20 : Nat) : Int) = 20 from rfl] at hpf
      have hq32 : f[k].length = 32 := hf _ (List.getElem_mem hkm)
      have hpl := pathS_le f k
      have hpa := path_all _ f k rfl hf
      have hSw := hS8 w (Ext.refl w)
      obtain ⟨A', cap', hv', -, -, -, hrw⟩ := hSw
      injection hv' with v1 v2 v3
      subst v1
      obtain ⟨b', off', hbo, hbl, hm0⟩ := rds_mid hrw hf (k := k) hkm
      injection hbo with hbo
      injection hbo with b1 b2 b3
      subst b1 b2
      clear v2 v3 b3 hrw
      generalize f[k] = a at *
      obtain ⟨p, hp⟩ : ∃ p, p = pathS f k := ⟨_, rfl⟩
      have Hp := Lib.hid hp
      rw [← hp] at hpf hpl hpa
      clear hp
      refine (refPath_calls _ f k (by omega) hkm hf _ (hS8 _ hE)).mono ?_; rw [← Hp.out]; rintro e w3 ⟨v3, rfl, hP, e3⟩
      obtain ⟨Ap, cp, hv3, _⟩ := id hP
      subst hv3
      replace hM := Blk.below hM e3 (Blk.lt hM)
      replace hE := hE.trans e3
      replace cq1 : w3.cell? ⟨w.heap.size, 32, none⟩ = some (.slice Pq q.length kq) := cl_cell hx hM
      replace hmx : w3.rangeAt w.heap.size 0 (hcells x) := cl_mid hM
      replace hml := Blk.lt hM
      clear e3
      have hma : w3.rangeAt b (off + k * 32) (hcells a) := fun i u hu => ((ext_cells hE).1 b _ hbl).trans (hm0 i u hu)
      have hbl2 : b < w3.heap.size := Nat.lt_of_lt_of_le hbl hE.size
      have hpx := foldP_length x hx (k : Int) 20 q
      obtain ⟨P, hP1⟩ : ∃ P, P = foldP x (k : Int) 20 q := ⟨_, rfl⟩
      rw [← hP1] at hpx
      obtain ⟨y, is⟩ := P
      have hy : y.length = 32 := hpx
      have HP1 := Lib.hid hP1
      have HPF := Lib.hid hpf
      clear hpx hP1 hpf
      go_wp2_with (refine stop_load 23 (.tmp 43) rfl ?_)
      refine ⟨?_⟩
      refine wpList_load_mid rfl 23 (.tmp 43) rfl w.heap.size (0) (by rfl) (hcells x) _ hmx Tryd.underlying23 rfl (size32l _ hx) ?_
      simp only [Act.put, List.setIfInBounds_toArray, List.set_cons_zero, List.set_cons_succ]
      unfold hcells
      go_wp2_with fail
      change Calls _ _ #[sumV x, _, _, _] _ _
      refine (refFold_any x hx (k : Int) 20 (by omega) _ q hq _ (hQ0.ext hE)).mono ?_; rw [← HP1.out]; rintro e v4 ⟨rfl, e3⟩
      replace hM := Blk.below hM e3 (Blk.lt hM)
      replace hP := hP.ext e3
      replace hE := hE.trans e3
      replace cq1 : v4.cell? ⟨w.heap.size, 32, none⟩ = some (.slice Pq q.length kq) := cl_cell hx hM
      replace hmx : v4.rangeAt w.heap.size 0 (hcells x) := cl_mid hM
      replace hml := Blk.lt hM
      replace hma : v4.rangeAt b (off + k * 32) (hcells a) := fun i u hu => ((ext_cells hE).1 b _ hbl).trans (hm0 i u hu)
      replace hbl2 : b < v4.heap.size := Nat.lt_of_lt_of_le hbl hE.size
      clear e3
      try unfold sumV
      go_wp2_with (refine stop_store 23 (.tmp 12) (.tmp 51) rfl ?_)
      refine ⟨?_⟩
      change wpList _ _ _ _ _ (v4.alloc (.cells ((zerosB 32).map byteV).toArray 23))
      have hY0 : ArrB (v4.alloc (.cells ((zerosB 32).map byteV).toArray 23)) v4.heap.size 23 (zerosB 32) := Blk.new _ _ _
      refine wpList_store_row rfl 23 (.tmp 12) (.tmp 51) rfl v4.heap.size ((y).map byteV).toArray (by rfl) (by rfl) 23 _ hY0 (size32.trans (by simp [hy])) (by simp [hy, zerosB]) (by simp [byteV, Value.oneCell']) ?_
      simp only [Act.put, List.setIfInBounds_toArray, List.set_cons_zero, List.set_cons_succ]
      have hY : ArrB ((v4.alloc (.cells ((zerosB 32).map byteV).toArray 23)).setRow v4.heap.size ((y).map byteV).toArray) v4.heap.size 23 (y) := Blk.row hY0 _
      have e6 : Ext v4 ((v4.alloc (.cells ((zerosB 32).map byteV).toArray 23)).setRow v4.heap.size ((y).map byteV).toArray) := ((Ext.refl v4).alloc _).row (Nat.le_refl _) _
      clear hY0
      generalize (v4.alloc (.cells ((zerosB 32).map byteV).toArray 23)).setRow v4.heap.size ((y).map byteV).toArray = v5 at *
      have g7l := Blk.lt hY
      obtain ⟨g7, g7e⟩ : ∃ g7, g7 = v4.heap.size := ⟨_, rfl⟩
      rw [← g7e] at hY g7l
      try rw [← g7e]
      have g7b : v4.heap.size ≤ g7 := by omega
      replace hM := Blk.below hM e6 (Blk.lt hM)
      replace hP := hP.ext e6
      replace hE := hE.trans e6
      replace cq1 : v5.cell? ⟨w.heap.size, 32, none⟩ = some (.slice Pq q.length kq) := cl_cell hx hM
      replace hmx : v5.rangeAt w.heap.size 0 (hcells x) := cl_mid hM
      replace hml := Blk.lt hM
      replace hma : v5.rangeAt b (off + k * 32) (hcells a) := fun i u hu => ((ext_cells hE).1 b _ hbl).trans (hm0 i u hu)
      replace hbl2 : b < v5.heap.size := Nat.lt_of_lt_of_le hbl hE.size
      clear e6
      clear g7e
      go_wp2_with fail
      cases is
      · skip
        refine region_keep0 (fun _ => True) (by kernel_rfl) (by kernel_rfl) ?_
        repeat (first | (refine mix_quiet (by rfl) (by rfl) (fun K hK => ?_); go_big_quiet_op; refine hK _ ?_; clear hK K) | (refine mix_skip (by rfl) ?_; simp only [Act.put, List.setIfInBounds_toArray, List.set_cons_zero, List.set_cons_succ]))
        refine mix_nil ?_
        go_wp2_with fail
        go_ret
        exact ⟨rfl, hE.trans (Ext.refl _).drew⟩
      have hrl := rootS_length f hf
      obtain ⟨z, hz⟩ : ∃ z, z = rootS f := ⟨_, rfl⟩
      rw [← hz] at hrl HPF
      have Hz := Lib.hid hz
      clear hz
      have heqz := fun w : World => eq_sum y z hy hrl w
      have hqn := fold_len x (k : Int) 20 q (by omega) (by rw [← HP1.out])
      by_cases hyz : y = z
      · have dz : decide (y = z) = true := decide_eq_true hyz
        subst hyz
        rw [dz] at heqz
        clear dz
        have hLT := leaves_tell (k : Int) 20 a x y p q hq32 hx hpa hq HPF.out HP1.out.symm
        refine region_keep0 (fun _ => True) (by kernel_rfl) (by kernel_rfl) ?_
        have K0 : Ext v5 v5.drew := (Ext.refl v5).drew
        iterate 3 (first | (refine mix_quiet (by rfl) (by rfl) (fun K hK => ?_); go_big_quiet_op; refine hK _ ?_; clear hK K) | (refine mix_skip (by rfl) ?_; simp only [Act.put, List.setIfInBounds_toArray, List.set_cons_zero, List.set_cons_succ]))
        refine held_row (by rfl) (by rfl) 23 (.tmp 12) rfl g7 (by rfl) 23 _ _ hY trivial Tryd.underlying23 rfl (size32.trans (by simp [hy])) ?_
        simp only [Act.put, List.setIfInBounds_toArray, List.set_cons_zero, List.set_cons_succ]
        iterate 1 (first | (refine mix_quiet (by rfl) (by rfl) (fun K hK => ?_); go_big_quiet_op; refine hK _ ?_; clear hK K) | (refine mix_skip (by rfl) ?_; simp only [Act.put, List.setIfInBounds_toArray, List.set_cons_zero, List.set_cons_succ]))
        (refine mix_loud (by rfl) (by rfl) (fun K E hK => ?_); go_big_op)
        refine (refRoot_calls _ f hf _ (hS8 _ (hE.trans K0))).mono ?_; rw [← Hz.out]; rintro e u1 ⟨rfl, K1⟩
        have K1 := K0.trans K1
        refine hK _ _ (held_of (Keep.of_ext K1)) ?_; clear hK K E
        unfold sumV
        repeat (first | (refine mix_quiet (by rfl) (by rfl) (fun K hK => ?_); go_big_quiet_op; refine hK _ ?_; clear hK K) | (refine mix_skip (by rfl) ?_; simp only [Act.put, List.setIfInBounds_toArray, List.set_cons_zero, List.set_cons_succ]))
        refine mix_nil ?_
        clear K0
        replace hM := Blk.below hM K1 (Blk.lt hM)
        replace hP := hP.ext K1
        replace hY := Blk.below hY K1 (Blk.lt hY)
        replace hE := hE.trans K1
        replace cq1 : u1.cell? ⟨w.heap.size, 32, none⟩ = some (.slice Pq q.length kq) := cl_cell hx hM
        replace hmx : u1.rangeAt w.heap.size 0 (hcells x) := cl_mid hM
        replace hml := Blk.lt hM
        replace hma : u1.rangeAt b (off + k * 32) (hcells a) := fun i u hu => ((ext_cells hE).1 b _ hbl).trans (hm0 i u hu)
        replace hbl2 : b < u1.heap.size := Nat.lt_of_lt_of_le hbl hE.size
        clear K1
        have heqx := fun w : World => eq_sum x a hx hq32 w
        by_cases hpq : p = q
        · have HPQ : Hid (decide (p = q) = true) := Lib.hid (decide_eq_true hpq)
          by_cases hax : a = x
          · have HL := Lib.hid (hLT.1 ⟨hax, hpq⟩)
            have dx : decide (x = a) = true := decide_eq_true hax.symm
            rw [dx] at heqx
            clear dx hax hpq hLT
            go_wp2_with fail
            refine (Same_calls _ _ p q hpa hq _ hP (hQ0.ext hE)).mono ?_; rw [HPQ.out]; rintro e v9 ⟨rfl, e8⟩
            replace hM := Blk.below hM e8 (Blk.lt hM)
            replace hP := hP.ext e8
            replace hY := Blk.below hY e8 (Blk.lt hY)
            replace hE := hE.trans e8
            replace cq1 : v9.cell? ⟨w.heap.size, 32, none⟩ = some (.slice Pq q.length kq) := cl_cell hx hM
            replace hmx : v9.rangeAt w.heap.size 0 (hcells x) := cl_mid hM
            replace hml := Blk.lt hM
            replace hma : v9.rangeAt b (off + k * 32) (hcells a) := fun i u hu => ((ext_cells hE).1 b _ hbl).trans (hm0 i u hu)
            replace hbl2 : b < v9.heap.size := Nat.lt_of_lt_of_le hbl hE.size
            clear e8
            go_wp2_with fail
            refine region_plan 19 (Plan.run [0, 1, 2, 3, 4, 5, 6, 7, 8, 9, 10, 11] (.two 12 16 (Plan.run [13, 14, 16, 17, 15, 18] .nil) (Plan.run [12, 13, 14, 17, 15, 18] .nil))) (by kernel_rfl) (by kernel_rfl) (fun y0 => ?_); simp only [Plan.run, List.drop_succ_cons, List.drop_zero, List.drop_nil]
            iterate 6 (first | (refine plan_quiet (by simp only [List.getElem?_toArray, List.getElem?_cons_zero, List.getElem?_cons_succ]; rfl) (by rfl) (by rfl) (fun K hK => ?_); go_big_quiet_op; refine hK _ ?_; clear hK K) | (refine plan_skip (by simp only [List.getElem?_toArray, List.getElem?_cons_zero, List.getElem?_cons_succ]; rfl) (by rfl) ?_; simp only [Act.put, List.setIfInBounds_toArray, List.set_cons_zero, List.set_cons_succ]))
            refine plan_mid (by simp only [List.getElem?_toArray, List.getElem?_cons_zero, List.getElem?_cons_succ]; rfl) (by rfl) (by rfl) 23 (.tmp 72) rfl b (off + k * 32) (by rfl) _ _ hma hbl2 Tryd.underlying23 rfl (size32l _ hq32) ?_
            simp only [Act.put, List.setIfInBounds_toArray, List.set_cons_zero, List.set_cons_succ]
            iterate 1 (first | (refine plan_quiet (by simp only [List.getElem?_toArray, List.getElem?_cons_zero, List.getElem?_cons_succ]; rfl) (by rfl) (by rfl) (fun K hK => ?_); go_big_quiet_op; refine hK _ ?_; clear hK K) | (refine plan_skip (by simp only [List.getElem?_toArray, List.getElem?_cons_zero, List.getElem?_cons_succ]; rfl) (by rfl) ?_; simp only [Act.put, List.setIfInBounds_toArray, List.set_cons_zero, List.set_cons_succ]))
            refine plan_mid (by simp only [List.getElem?_toArray, List.getElem?_cons_zero, List.getElem?_cons_succ]; rfl) (by rfl) (by rfl) 23 (.tmp 74) rfl w.heap.size 0 (by rfl) _ _ hmx hml Tryd.underlying23 rfl (size32l _ hx) ?_
            simp only [Act.put, List.setIfInBounds_toArray, List.set_cons_zero, List.set_cons_succ]
            unfold hcells
            iterate 3 (first | (refine plan_quiet (by simp only [List.getElem?_toArray, List.getElem?_cons_zero, List.getElem?_cons_succ]; rfl) (by rfl) (by rfl) (fun K hK => ?_); go_big_quiet_op; refine hK _ ?_; clear hK K) | (refine plan_skip (by simp only [List.getElem?_toArray, List.getElem?_cons_zero, List.getElem?_cons_succ]; rfl) (by rfl) ?_; simp only [Act.put, List.setIfInBounds_toArray, List.set_cons_zero, List.set_cons_succ]))
            refine plan_two ?_ ?_
            · skip
              (refine plan_loud (by simp only [List.getElem?_toArray, List.getElem?_cons_zero, List.getElem?_cons_succ]; rfl) (by rfl) (by rfl) (fun K E hK => ?_); go_big_op)
              change Calls _ _ #[_, _, sumV a, sumV x, _, _] _ _
              refine (Leaves_calls (k : Int) 20 (by omega) a x hq32 hx _ _ p q hpa hq (by omega) hqn _ (KW.ext (hE.trans (grow_ext y0))) (hP.ext (grow_ext y0)) (hQ0.ext (hE.trans (grow_ext y0)))).mono ?_; rw [HL.out, twC_none]; rintro e w5 ⟨rfl, hd⟩
              obtain ⟨y1, rfl⟩ := more_ext _ hd; clear hd
              refine hK _ _ ⟨_, rfl⟩ ?_; clear hK K E
              iterate 2 (first | (refine plan_quiet (by simp only [List.getElem?_toArray, List.getElem?_cons_zero, List.getElem?_cons_succ]; rfl) (by rfl) (by rfl) (fun K hK => ?_); go_big_quiet_op; refine hK _ ?_; clear hK K) | (refine plan_skip (by simp only [List.getElem?_toArray, List.getElem?_cons_zero, List.getElem?_cons_succ]; rfl) (by rfl) ?_; simp only [Act.put, List.setIfInBounds_toArray, List.set_cons_zero, List.set_cons_succ]))
              refine plan_one ?_
              (refine plan_loud (by simp only [List.getElem?_toArray, List.getElem?_cons_zero, List.getElem?_cons_succ]; rfl) (by rfl) (by rfl) (fun K E hK => ?_); go_big_op)
              obtain ⟨y2, hy2⟩ := more_of ((grow_ext y1).alloc (.cells #[.string (bs []), .string (bs [])] 57))
              have hN := Blk.new (grow v9 y1) 57 #[.string (bs []), .string (bs [])]
              have hgb : v9.heap.size ≤ (grow v9 y1).heap.size := (grow_ext y1).size
              change K _ ((grow v9 y1).alloc (.cells #[.string (bs []), .string (bs [])] 57))
              rw [hy2] at hN ⊢
              generalize (grow v9 y1).heap.size = gN at *
              clear hy2
              refine hK _ _ ⟨_, rfl⟩ ?_; clear hK K E
              have hN0 : (grow v9 y2).cell? ⟨gN, 0, none⟩ = some (.string (bs [])) := Blk.cell hN 0
              have hN1 : (grow v9 y2).cell? ⟨gN, 1, none⟩ = some (.string (bs [])) := Blk.cell hN 1
              have f0 := Blk.frozen hN 0
              have f1 := Blk.frozen hN 1
              have hNl := Blk.lt hN
              refine plan_one ?_
              (refine plan_loud (by simp only [List.getElem?_toArray, List.getElem?_cons_zero, List.getElem?_cons_succ]; rfl) (by rfl) (by rfl) (fun K E hK => ?_); go_big_op)
              obtain ⟨y3, hy3⟩ := more_of (((grow_ext y2).setCell (p := ⟨gN, 0, none⟩) hgb (.string (bs []))).setCell (p := ⟨gN, 1, none⟩) hgb (.string (bs [])))
              change K _ (((grow v9 y2).setCell ⟨gN, 0, none⟩ (.string (bs []))).setCell ⟨gN, 1, none⟩ (.string (bs [])))
              rw [hy3]
              refine hK _ _ ⟨_, rfl⟩ ?_; clear hK K E
              clear hy3 hN0 hN1 f0 f1 hNl hN
              iterate 2 (first | (refine plan_quiet (by simp only [List.getElem?_toArray, List.getElem?_cons_zero, List.getElem?_cons_succ]; rfl) (by rfl) (by rfl) (fun K hK => ?_); go_big_quiet_op; refine hK _ ?_; clear hK K) | (refine plan_skip (by simp only [List.getElem?_toArray, List.getElem?_cons_zero, List.getElem?_cons_succ]; rfl) (by rfl) ?_; simp only [Act.put, List.setIfInBounds_toArray, List.set_cons_zero, List.set_cons_succ]))
              refine plan_nil ?_
              have eF := grow_ext y3
              generalize grow v9 y3 = w10 at *
              replace hM := Blk.below hM eF (Blk.lt hM)
              replace hE := hE.trans eF
              clear hma hbl2 hmx hml cq1 eF
              have hma : w10.rangeAt b (off + k * 32) (hcells a) := fun i u hu => ((ext_cells hE).1 b _ hbl).trans (hm0 i u hu)
              have hbl2 : b < w10.heap.size := Nat.lt_of_lt_of_le hbl hE.size
              have hmx : w10.rangeAt w.heap.size 0 (hcells x) := cl_mid hM
              go_wp2_with fail
              refine region_keep0 (fun _ => True) (by kernel_rfl) (by kernel_rfl) ?_
              iterate 6 (first | (refine mix_quiet (by rfl) (by rfl) (fun K hK => ?_); go_big_quiet_op; refine hK _ ?_; clear hK K) | (refine mix_skip (by rfl) ?_; simp only [Act.put, List.setIfInBounds_toArray, List.set_cons_zero, List.set_cons_succ]))
              refine held_mid (by rfl) (by rfl) 23 (.tmp 87) rfl w.heap.size 0 (by rfl) (hcells x) _ hmx (Blk.lt hM) trivial Tryd.underlying23 rfl (size32l _ hx) ?_
              simp only [Act.put, List.setIfInBounds_toArray, List.set_cons_zero, List.set_cons_succ]
              iterate 3 (first | (refine mix_quiet (by rfl) (by rfl) (fun K hK => ?_); go_big_quiet_op; refine hK _ ?_; clear hK K) | (refine mix_skip (by rfl) ?_; simp only [Act.put, List.setIfInBounds_toArray, List.set_cons_zero, List.set_cons_succ]))
              refine held_mid (by rfl) (by rfl) 23 (.tmp 91) rfl b (off + k * 32) (by rfl) (hcells a) _ hma hbl2 trivial Tryd.underlying23 rfl (size32l _ hq32) ?_
              simp only [Act.put, List.setIfInBounds_toArray, List.set_cons_zero, List.set_cons_succ]
              unfold hcells
              repeat (first | (refine mix_quiet (by rfl) (by rfl) (fun K hK => ?_); go_big_quiet_op; refine hK _ ?_; clear hK K) | (refine mix_skip (by rfl) ?_; simp only [Act.put, List.setIfInBounds_toArray, List.set_cons_zero, List.set_cons_succ]))
              refine mix_nil ?_
              go_wp2_with fail
              go_ret
              exact ⟨rfl, hE.trans (Ext.refl _).drew⟩
            · skip
              (refine plan_loud (by simp only [List.getElem?_toArray, List.getElem?_cons_zero, List.getElem?_cons_succ]; rfl) (by rfl) (by rfl) (fun K E hK => ?_); go_big_op)
              obtain ⟨y1, hy1⟩ := more_of ((grow_ext y0).alloc (.cells #[.string (bs []), .string (bs [])] 57))
              have hN := Blk.new (grow v9 y0) 57 #[.string (bs []), .string (bs [])]
              have hgb : v9.heap.size ≤ (grow v9 y0).heap.size := (grow_ext y0).size
              change K _ ((grow v9 y0).alloc (.cells #[.string (bs []), .string (bs [])] 57))
              rw [hy1] at hN ⊢
              generalize (grow v9 y0).heap.size = gN at *
              clear hy1
              refine hK _ _ ⟨_, rfl⟩ ?_; clear hK K E
              refine plan_one ?_
              (refine plan_loud (by simp only [List.getElem?_toArray, List.getElem?_cons_zero, List.getElem?_cons_succ]; rfl) (by rfl) (by rfl) (fun K E hK => ?_); go_big_op)
              change Calls _ _ #[_, _, sumV a, sumV x, _, _] _ _
              refine (Leaves_calls (k : Int) 20 (by omega) a x hq32 hx _ _ p q hpa hq (by omega) hqn _ (KW.ext (hE.trans (grow_ext y1))) (hP.ext (grow_ext y1)) (hQ0.ext (hE.trans (grow_ext y1)))).mono ?_; rw [HL.out, twC_none]; rintro e w5 ⟨rfl, hd⟩
              replace hN := Blk.below hN hd (Blk.lt hN)
              obtain ⟨y2, rfl⟩ := more_ext _ hd; clear hd
              refine hK _ _ ⟨_, rfl⟩ ?_; clear hK K E
              iterate 2 (first | (refine plan_quiet (by simp only [List.getElem?_toArray, List.getElem?_cons_zero, List.getElem?_cons_succ]; rfl) (by rfl) (by rfl) (fun K hK => ?_); go_big_quiet_op; refine hK _ ?_; clear hK K) | (refine plan_skip (by simp only [List.getElem?_toArray, List.getElem?_cons_zero, List.getElem?_cons_succ]; rfl) (by rfl) ?_; simp only [Act.put, List.setIfInBounds_toArray, List.set_cons_zero, List.set_cons_succ]))
              have hN0 : (grow v9 y2).cell? ⟨gN, 0, none⟩ = some (.string (bs [])) := Blk.cell hN 0
              have hN1 : (grow v9 y2).cell? ⟨gN, 1, none⟩ = some (.string (bs [])) := Blk.cell hN 1
              have f0 := Blk.frozen hN 0
              have f1 := Blk.frozen hN 1
              have hNl := Blk.lt hN
              refine plan_one ?_
              (refine plan_loud (by simp only [List.getElem?_toArray, List.getElem?_cons_zero, List.getElem?_cons_succ]; rfl) (by rfl) (by rfl) (fun K E hK => ?_); go_big_op)
              obtain ⟨y3, hy3⟩ := more_of (((grow_ext y2).setCell (p := ⟨gN, 0, none⟩) hgb (.string (bs []))).setCell (p := ⟨gN, 1, none⟩) hgb (.string (bs [])))
              change K _ (((grow v9 y2).setCell ⟨gN, 0, none⟩ (.string (bs []))).setCell ⟨gN, 1, none⟩ (.string (bs [])))
              rw [hy3]
              refine hK _ _ ⟨_, rfl⟩ ?_; clear hK K E
              clear hy3 hN0 hN1 f0 f1 hNl hN
              iterate 2 (first | (refine plan_quiet (by simp only [List.getElem?_toArray, List.getElem?_cons_zero, List.getElem?_cons_succ]; rfl) (by rfl) (by rfl) (fun K hK => ?_); go_big_quiet_op; refine hK _ ?_; clear hK K) | (refine plan_skip (by simp only [List.getElem?_toArray, List.getElem?_cons_zero, List.getElem?_cons_succ]; rfl) (by rfl) ?_; simp only [Act.put, List.setIfInBounds_toArray, List.set_cons_zero, List.set_cons_succ]))
              refine plan_nil ?_
              have eF := grow_ext y3
              generalize grow v9 y3 = w10 at *
              replace hM := Blk.below hM eF (Blk.lt hM)
              replace hE := hE.trans eF
              clear hma hbl2 hmx hml cq1 eF
              have hma : w10.rangeAt b (off + k * 32) (hcells a) := fun i u hu => ((ext_cells hE).1 b _ hbl).trans (hm0 i u hu)
              have hbl2 : b < w10.heap.size := Nat.lt_of_lt_of_le hbl hE.size
              have hmx : w10.rangeAt w.heap.size 0 (hcells x) := cl_mid hM
              go_wp2_with fail
              refine region_keep0 (fun _ => True) (by kernel_rfl) (by kernel_rfl) ?_
              iterate 6 (first | (refine mix_quiet (by rfl) (by rfl) (fun K hK => ?_); go_big_quiet_op; refine hK _ ?_; clear hK K) | (refine mix_skip (by rfl) ?_; simp only [Act.put, List.setIfInBounds_toArray, List.set_cons_zero, List.set_cons_succ]))
              refine held_mid (by rfl) (by rfl) 23 (.tmp 87) rfl w.heap.size 0 (by rfl) (hcells x) _ hmx (Blk.lt hM) trivial Tryd.underlying23 rfl (size32l _ hx) ?_
              simp only [Act.put, List.setIfInBounds_toArray, List.set_cons_zero, List.set_cons_succ]
              iterate 3 (first | (refine mix_quiet (by rfl) (by rfl) (fun K hK => ?_); go_big_quiet_op; refine hK _ ?_; clear hK K) | (refine mix_skip (by rfl) ?_; simp only [Act.put, List.setIfInBounds_toArray, List.set_cons_zero, List.set_cons_succ]))
              refine held_mid (by rfl) (by rfl) 23 (.tmp 91) rfl b (off + k * 32) (by rfl) (hcells a) _ hma hbl2 trivial Tryd.underlying23 rfl (size32l _ hq32) ?_
              simp only [Act.put, List.setIfInBounds_toArray, List.set_cons_zero, List.set_cons_succ]
              unfold hcells
              repeat (first | (refine mix_quiet (by rfl) (by rfl) (fun K hK => ?_); go_big_quiet_op; refine hK _ ?_; clear hK K) | (refine mix_skip (by rfl) ?_; simp only [Act.put, List.setIfInBounds_toArray, List.set_cons_zero, List.set_cons_succ]))
              refine mix_nil ?_
              go_wp2_with fail
              go_ret
              exact ⟨rfl, hE.trans (Ext.refl _).drew⟩
          · obtain ⟨rr, ss, hrs⟩ := hLT.2 (fun h => hax h.1)
            have HL := Lib.hid hrs
            have dx : decide (x = a) = false := decide_eq_false (fun h => hax h.symm)
            rw [dx] at heqx
            clear dx hax hpq hLT hrs
            go_wp2_with fail
            refine (Same_calls _ _ p q hpa hq _ hP (hQ0.ext hE)).mono ?_; rw [HPQ.out]; rintro e v9 ⟨rfl, e8⟩
            replace hM := Blk.below hM e8 (Blk.lt hM)
            replace hP := hP.ext e8
            replace hY := Blk.below hY e8 (Blk.lt hY)
            replace hE := hE.trans e8
            replace cq1 : v9.cell? ⟨w.heap.size, 32, none⟩ = some (.slice Pq q.length kq) := cl_cell hx hM
            replace hmx : v9.rangeAt w.heap.size 0 (hcells x) := cl_mid hM
            replace hml := Blk.lt hM
            replace hma : v9.rangeAt b (off + k * 32) (hcells a) := fun i u hu => ((ext_cells hE).1 b _ hbl).trans (hm0 i u hu)
            replace hbl2 : b < v9.heap.size := Nat.lt_of_lt_of_le hbl hE.size
            clear e8
            go_wp2_with fail
            refine region_plan 19 (Plan.run [0, 1, 2, 3, 4, 5, 6, 7, 8, 9, 10, 11] (.two 12 16 (Plan.run [13, 14, 16, 17, 15, 18] .nil) (Plan.run [12, 13, 14, 17, 15, 18] .nil))) (by kernel_rfl) (by kernel_rfl) (fun y0 => ?_); simp only [Plan.run, List.drop_succ_cons, List.drop_zero, List.drop_nil]
            iterate 6 (first | (refine plan_quiet (by simp only [List.getElem?_toArray, List.getElem?_cons_zero, List.getElem?_cons_succ]; rfl) (by rfl) (by rfl) (fun K hK => ?_); go_big_quiet_op; refine hK _ ?_; clear hK K) | (refine plan_skip (by simp only [List.getElem?_toArray, List.getElem?_cons_zero, List.getElem?_cons_succ]; rfl) (by rfl) ?_; simp only [Act.put, List.setIfInBounds_toArray, List.set_cons_zero, List.set_cons_succ]))
            refine plan_mid (by simp only [List.getElem?_toArray, List.getElem?_cons_zero, List.getElem?_cons_succ]; rfl) (by rfl) (by rfl) 23 (.tmp 72) rfl b (off + k * 32) (by rfl) _ _ hma hbl2 Tryd.underlying23 rfl (size32l _ hq32) ?_
            simp only [Act.put, List.setIfInBounds_toArray, List.set_cons_zero, List.set_cons_succ]
            iterate 1 (first | (refine plan_quiet (by simp only [List.getElem?_toArray, List.getElem?_cons_zero, List.getElem?_cons_succ]; rfl) (by rfl) (by rfl) (fun K hK => ?_); go_big_quiet_op; refine hK _ ?_; clear hK K) | (refine plan_skip (by simp only [List.getElem?_toArray, List.getElem?_cons_zero, List.getElem?_cons_succ]; rfl) (by rfl) ?_; simp only [Act.put, List.setIfInBounds_toArray, List.set_cons_zero, List.set_cons_succ]))
            refine plan_mid (by simp only [List.getElem?_toArray, List.getElem?_cons_zero, List.getElem?_cons_succ]; rfl) (by rfl) (by rfl) 23 (.tmp 74) rfl w.heap.size 0 (by rfl) _ _ hmx hml Tryd.underlying23 rfl (size32l _ hx) ?_
            simp only [Act.put, List.setIfInBounds_toArray, List.set_cons_zero, List.set_cons_succ]
            unfold hcells
            iterate 3 (first | (refine plan_quiet (by simp only [List.getElem?_toArray, List.getElem?_cons_zero, List.getElem?_cons_succ]; rfl) (by rfl) (by rfl) (fun K hK => ?_); go_big_quiet_op; refine hK _ ?_; clear hK K) | (refine plan_skip (by simp only [List.getElem?_toArray, List.getElem?_cons_zero, List.getElem?_cons_succ]; rfl) (by rfl) ?_; simp only [Act.put, List.setIfInBounds_toArray, List.set_cons_zero, List.set_cons_succ]))
            refine plan_two ?_ ?_
            · skip
              (refine plan_loud (by simp only [List.getElem?_toArray, List.getElem?_cons_zero, List.getElem?_cons_succ]; rfl) (by rfl) (by rfl) (fun K E hK => ?_); go_big_op)
              change Calls _ _ #[_, _, sumV a, sumV x, _, _] _ _
              refine (Leaves_calls (k : Int) 20 (by omega) a x hq32 hx _ _ p q hpa hq (by omega) hqn _ (KW.ext (hE.trans (grow_ext y0))) (hP.ext (grow_ext y0)) (hQ0.ext (hE.trans (grow_ext y0)))).mono ?_; rw [HL.out, twC_some]; rintro e w5 ⟨rfl, hd⟩
              obtain ⟨y1, rfl⟩ := more_ext _ hd; clear hd
              refine hK _ _ ⟨_, rfl⟩ ?_; clear hK K E
              iterate 2 (first | (refine plan_quiet (by simp only [List.getElem?_toArray, List.getElem?_cons_zero, List.getElem?_cons_succ]; rfl) (by rfl) (by rfl) (fun K hK => ?_); go_big_quiet_op; refine hK _ ?_; clear hK K) | (refine plan_skip (by simp only [List.getElem?_toArray, List.getElem?_cons_zero, List.getElem?_cons_succ]; rfl) (by rfl) ?_; simp only [Act.put, List.setIfInBounds_toArray, List.set_cons_zero, List.set_cons_succ]))
              refine plan_one ?_
              (refine plan_loud (by simp only [List.getElem?_toArray, List.getElem?_cons_zero, List.getElem?_cons_succ]; rfl) (by rfl) (by rfl) (fun K E hK => ?_); go_big_op)
              obtain ⟨y2, hy2⟩ := more_of ((grow_ext y1).alloc (.cells #[.string (bs []), .string (bs [])] 57))
              have hN := Blk.new (grow v9 y1) 57 #[.string (bs []), .string (bs [])]
              have hgb : v9.heap.size ≤ (grow v9 y1).heap.size := (grow_ext y1).size
              change K _ ((grow v9 y1).alloc (.cells #[.string (bs []), .string (bs [])] 57))
              rw [hy2] at hN ⊢
              generalize (grow v9 y1).heap.size = gN at *
              clear hy2
              refine hK _ _ ⟨_, rfl⟩ ?_; clear hK K E
              have hN0 : (grow v9 y2).cell? ⟨gN, 0, none⟩ = some (.string (bs [])) := Blk.cell hN 0
              have hN1 : (grow v9 y2).cell? ⟨gN, 1, none⟩ = some (.string (bs [])) := Blk.cell hN 1
              have f0 := Blk.frozen hN 0
              have f1 := Blk.frozen hN 1
              have hNl := Blk.lt hN
              refine plan_one ?_
              (refine plan_loud (by simp only [List.getElem?_toArray, List.getElem?_cons_zero, List.getElem?_cons_succ]; rfl) (by rfl) (by rfl) (fun K E hK => ?_); go_big_op)
              obtain ⟨y3, hy3⟩ := more_of (((grow_ext y2).setCell (p := ⟨gN, 0, none⟩) hgb (.string (bs rr))).setCell (p := ⟨gN, 1, none⟩) hgb (.string (bs ss)))
              change K _ (((grow v9 y2).setCell ⟨gN, 0, none⟩ (.string (bs rr))).setCell ⟨gN, 1, none⟩ (.string (bs ss)))
              rw [hy3]
              refine hK _ _ ⟨_, rfl⟩ ?_; clear hK K E
              clear hy3 hN0 hN1 f0 f1 hNl hN
              iterate 2 (first | (refine plan_quiet (by simp only [List.getElem?_toArray, List.getElem?_cons_zero, List.getElem?_cons_succ]; rfl) (by rfl) (by rfl) (fun K hK => ?_); go_big_quiet_op; refine hK _ ?_; clear hK K) | (refine plan_skip (by simp only [List.getElem?_toArray, List.getElem?_cons_zero, List.getElem?_cons_succ]; rfl) (by rfl) ?_; simp only [Act.put, List.setIfInBounds_toArray, List.set_cons_zero, List.set_cons_succ]))
              refine plan_nil ?_
              have eF := grow_ext y3
              generalize grow v9 y3 = w10 at *
              replace hM := Blk.below hM eF (Blk.lt hM)
              replace hE := hE.trans eF
              clear hma hbl2 hmx hml cq1 eF
              have hma : w10.rangeAt b (off + k * 32) (hcells a) := fun i u hu => ((ext_cells hE).1 b _ hbl).trans (hm0 i u hu)
              have hbl2 : b < w10.heap.size := Nat.lt_of_lt_of_le hbl hE.size
              have hmx : w10.rangeAt w.heap.size 0 (hcells x) := cl_mid hM
              go_wp2_with fail
              refine region_keep0 (fun _ => True) (by kernel_rfl) (by kernel_rfl) ?_
              iterate 6 (first | (refine mix_quiet (by rfl) (by rfl) (fun K hK => ?_); go_big_quiet_op; refine hK _ ?_; clear hK K) | (refine mix_skip (by rfl) ?_; simp only [Act.put, List.setIfInBounds_toArray, List.set_cons_zero, List.set_cons_succ]))
              refine held_mid (by rfl) (by rfl) 23 (.tmp 87) rfl w.heap.size 0 (by rfl) (hcells x) _ hmx (Blk.lt hM) trivial Tryd.underlying23 rfl (size32l _ hx) ?_
              simp only [Act.put, List.setIfInBounds_toArray, List.set_cons_zero, List.set_cons_succ]
              iterate 3 (first | (refine mix_quiet (by rfl) (by rfl) (fun K hK => ?_); go_big_quiet_op; refine hK _ ?_; clear hK K) | (refine mix_skip (by rfl) ?_; simp only [Act.put, List.setIfInBounds_toArray, List.set_cons_zero, List.set_cons_succ]))
              refine held_mid (by rfl) (by rfl) 23 (.tmp 91) rfl b (off + k * 32) (by rfl) (hcells a) _ hma hbl2 trivial Tryd.underlying23 rfl (size32l _ hq32) ?_
              simp only [Act.put, List.setIfInBounds_toArray, List.set_cons_zero, List.set_cons_succ]
              unfold hcells
              repeat (first | (refine mix_quiet (by rfl) (by rfl) (fun K hK => ?_); go_big_quiet_op; refine hK _ ?_; clear hK K) | (refine mix_skip (by rfl) ?_; simp only [Act.put, List.setIfInBounds_toArray, List.set_cons_zero, List.set_cons_succ]))
              refine mix_nil ?_
              go_wp2_with fail
              go_ret
              exact ⟨rfl, hE.trans (Ext.refl _).drew⟩
            · skip
              (refine plan_loud (by simp only [List.getElem?_toArray, List.getElem?_cons_zero, List.getElem?_cons_succ]; rfl) (by rfl) (by rfl) (fun K E hK => ?_); go_big_op)
              obtain ⟨y1, hy1⟩ := more_of ((grow_ext y0).alloc (.cells #[.string (bs []), .string (bs [])] 57))
              have hN := Blk.new (grow v9 y0) 57 #[.string (bs []), .string (bs [])]
              have hgb : v9.heap.size ≤ (grow v9 y0).heap.size := (grow_ext y0).size
              change K _ ((grow v9 y0).alloc (.cells #[.string (bs []), .string (bs [])] 57))
              rw [hy1] at hN ⊢
              generalize (grow v9 y0).heap.size = gN at *
              clear hy1
              refine hK _ _ ⟨_, rfl⟩ ?_; clear hK K E
              refine plan_one ?_
              (refine plan_loud (by simp only [List.getElem?_toArray, List.getElem?_cons_zero, List.getElem?_cons_succ]; rfl) (by rfl) (by rfl) (fun K E hK => ?_); go_big_op)
              change Calls _ _ #[_, _, sumV a, sumV x, _, _] _ _
              refine (Leaves_calls (k : Int) 20 (by omega) a x hq32 hx _ _ p q hpa hq (by omega) hqn _ (KW.ext (hE.trans (grow_ext y1))) (hP.ext (grow_ext y1)) (hQ0.ext (hE.trans (grow_ext y1)))).mono ?_; rw [HL.out, twC_some]; rintro e w5 ⟨rfl, hd⟩
              replace hN := Blk.below hN hd (Blk.lt hN)
              obtain ⟨y2, rfl⟩ := more_ext _ hd; clear hd
              refine hK _ _ ⟨_, rfl⟩ ?_; clear hK K E
              iterate 2 (first | (refine plan_quiet (by simp only [List.getElem?_toArray, List.getElem?_cons_zero, List.getElem?_cons_succ]; rfl) (by rfl) (by rfl) (fun K hK => ?_); go_big_quiet_op; refine hK _ ?_; clear hK K) | (refine plan_skip (by simp only [List.getElem?_toArray, List.getElem?_cons_zero, List.getElem?_cons_succ]; rfl) (by rfl) ?_; simp only [Act.put, List.setIfInBounds_toArray, List.set_cons_zero, List.set_cons_succ]))
              have hN0 : (grow v9 y2).cell? ⟨gN, 0, none⟩ = some (.string (bs [])) := Blk.cell hN 0
              have hN1 : (grow v9 y2).cell? ⟨gN, 1, none⟩ = some (.string (bs [])) := Blk.cell hN 1
              have f0 := Blk.frozen hN 0
              have f1 := Blk.frozen hN 1
              have hNl := Blk.lt hN
              refine plan_one ?_
              (refine plan_loud (by simp only [List.getElem?_toArray, List.getElem?_cons_zero, List.getElem?_cons_succ]; rfl) (by rfl) (by rfl) (fun K E hK => ?_); go_big_op)
              obtain ⟨y3, hy3⟩ := more_of (((grow_ext y2).setCell (p := ⟨gN, 0, none⟩) hgb (.string (bs rr))).setCell (p := ⟨gN, 1, none⟩) hgb (.string (bs ss)))
              change K _ (((grow v9 y2).setCell ⟨gN, 0, none⟩ (.string (bs rr))).setCell ⟨gN, 1, none⟩ (.string (bs ss)))
              rw [hy3]
              refine hK _ _ ⟨_, rfl⟩ ?_; clear hK K E
              clear hy3 hN0 hN1 f0 f1 hNl hN
              iterate 2 (first | (refine plan_quiet (by simp only [List.getElem?_toArray, List.getElem?_cons_zero, List.getElem?_cons_succ]; rfl) (by rfl) (by rfl) (fun K hK => ?_); go_big_quiet_op; refine hK _ ?_; clear hK K) | (refine plan_skip (by simp only [List.getElem?_toArray, List.getElem?_cons_zero, List.getElem?_cons_succ]; rfl) (by rfl) ?_; simp only [Act.put, List.setIfInBounds_toArray, List.set_cons_zero, List.set_cons_succ]))
              refine plan_nil ?_
              have eF := grow_ext y3
              generalize grow v9 y3 = w10 at *
              replace hM := Blk.below hM eF (Blk.lt hM)
              replace hE := hE.trans eF
              clear hma hbl2 hmx hml cq1 eF
              have hma : w10.rangeAt b (off + k * 32) (hcells a) := fun i u hu => ((ext_cells hE).1 b _ hbl).trans (hm0 i u hu)
              have hbl2 : b < w10.heap.size := Nat.lt_of_lt_of_le hbl hE.size
              have hmx : w10.rangeAt w.heap.size 0 (hcells x) := cl_mid hM
              go_wp2_with fail
              refine region_keep0 (fun _ => True) (by kernel_rfl) (by kernel_rfl) ?_
              iterate 6 (first | (refine mix_quiet (by rfl) (by rfl) (fun K hK => ?_); go_big_quiet_op; refine hK _ ?_; clear hK K) | (refine mix_skip (by rfl) ?_; simp only [Act.put, List.setIfInBounds_toArray, List.set_cons_zero, List.set_cons_succ]))
              refine held_mid (by rfl) (by rfl) 23 (.tmp 87) rfl w.heap.size 0 (by rfl) (hcells x) _ hmx (Blk.lt hM) trivial Tryd.underlying23 rfl (size32l _ hx) ?_
              simp only [Act.put, List.setIfInBounds_toArray, List.set_cons_zero, List.set_cons_succ]
              iterate 3 (first | (refine mix_quiet (by rfl) (by rfl) (fun K hK => ?_); go_big_quiet_op; refine hK _ ?_; clear hK K) | (refine mix_skip (by rfl) ?_; simp only [Act.put, List.setIfInBounds_toArray, List.set_cons_zero, List.set_cons_succ]))
              refine held_mid (by rfl) (by rfl) 23 (.tmp 91) rfl b (off + k * 32) (by rfl) (hcells a) _ hma hbl2 trivial Tryd.underlying23 rfl (size32l _ hq32) ?_
              simp only [Act.put, List.setIfInBounds_toArray, List.set_cons_zero, List.set_cons_succ]
              unfold hcells
              repeat (first | (refine mix_quiet (by rfl) (by rfl) (fun K hK => ?_); go_big_quiet_op; refine hK _ ?_; clear hK K) | (refine mix_skip (by rfl) ?_; simp only [Act.put, List.setIfInBounds_toArray, List.set_cons_zero, List.set_cons_succ]))
              refine mix_nil ?_
              go_wp2_with fail
              go_ret
              exact ⟨rfl, hE.trans (Ext.refl _).drew⟩
        · have HPQ : Hid (decide (p = q) = false) := Lib.hid (decide_eq_false hpq)
          obtain ⟨rr, ss, hrs⟩ := hLT.2 (fun h => hpq h.2)
          have HL := Lib.hid hrs
          clear hpq hLT hrs heqx
          go_wp2_with fail
          refine (Same_calls _ _ p q hpa hq _ hP (hQ0.ext hE)).mono ?_; rw [HPQ.out]; rintro e v9 ⟨rfl, e8⟩
          replace hM := Blk.below hM e8 (Blk.lt hM)
          replace hP := hP.ext e8
          replace hY := Blk.below hY e8 (Blk.lt hY)
          replace hE := hE.trans e8
          replace cq1 : v9.cell? ⟨w.heap.size, 32, none⟩ = some (.slice Pq q.length kq) := cl_cell hx hM
          replace hmx : v9.rangeAt w.heap.size 0 (hcells x) := cl_mid hM
          replace hml := Blk.lt hM
          replace hma : v9.rangeAt b (off + k * 32) (hcells a) := fun i u hu => ((ext_cells hE).1 b _ hbl).trans (hm0 i u hu)
          replace hbl2 : b < v9.heap.size := Nat.lt_of_lt_of_le hbl hE.size
          clear e8
          go_wp2_with fail
          refine region_plan 19 (Plan.run [0, 1, 2, 3, 4, 5, 6, 7, 8, 9, 10, 11] (.two 12 16 (Plan.run [13, 14, 16, 17, 15, 18] .nil) (Plan.run [12, 13, 14, 17, 15, 18] .nil))) (by kernel_rfl) (by kernel_rfl) (fun y0 => ?_); simp only [Plan.run, List.drop_succ_cons, List.drop_zero, List.drop_nil]
          iterate 6 (first | (refine plan_quiet (by simp only [List.getElem?_toArray, List.getElem?_cons_zero, List.getElem?_cons_succ]; rfl) (by rfl) (by rfl) (fun K hK => ?_); go_big_quiet_op; refine hK _ ?_; clear hK K) | (refine plan_skip (by simp only [List.getElem?_toArray, List.getElem?_cons_zero, List.getElem?_cons_succ]; rfl) (by rfl) ?_; simp only [Act.put, List.setIfInBounds_toArray, List.set_cons_zero, List.set_cons_succ]))
          refine plan_mid (by simp only [List.getElem?_toArray, List.getElem?_cons_zero, List.getElem?_cons_succ]; rfl) (by rfl) (by rfl) 23 (.tmp 72) rfl b (off + k * 32) (by rfl) _ _ hma hbl2 Tryd.underlying23 rfl (size32l _ hq32) ?_
          simp only [Act.put, List.setIfInBounds_toArray, List.set_cons_zero, List.set_cons_succ]
          iterate 1 (first | (refine plan_quiet (by simp only [List.getElem?_toArray, List.getElem?_cons_zero, List.getElem?_cons_succ]; rfl) (by rfl) (by rfl) (fun K hK => ?_); go_big_quiet_op; refine hK _ ?_; clear hK K) | (refine plan_skip (by simp only [List.getElem?_toArray, List.getElem?_cons_zero, List.getElem?_cons_succ]; rfl) (by rfl) ?_; simp only [Act.put, List.setIfInBounds_toArray, List.set_cons_zero, List.set_cons_succ]))
          refine plan_mid (by simp only [List.getElem?_toArray, List.getElem?_cons_zero, List.getElem?_cons_succ]; rfl) (by rfl) (by rfl) 23 (.tmp 74) rfl w.heap.size 0 (by rfl) _ _ hmx hml Tryd.underlying23 rfl (size32l _ hx) ?_
          simp only [Act.put, List.setIfInBounds_toArray, List.set_cons_zero, List.set_cons_succ]
          unfold hcells
          iterate 3 (first | (refine plan_quiet (by simp only [List.getElem?_toArray, List.getElem?_cons_zero, List.getElem?_cons_succ]; rfl) (by rfl) (by rfl) (fun K hK => ?_); go_big_quiet_op; refine hK _ ?_; clear hK K) | (refine plan_skip (by simp only [List.getElem?_toArray, List.getElem?_cons_zero, List.getElem?_cons_succ]; rfl) (by rfl) ?_; simp only [Act.put, List.setIfInBounds_toArray, List.set_cons_zero, List.set_cons_succ]))
          refine plan_two ?_ ?_
          · skip
            (refine plan_loud (by simp only [List.getElem?_toArray, List.getElem?_cons_zero, List.getElem?_cons_succ]; rfl) (by rfl) (by rfl) (fun K E hK => ?_); go_big_op)
            change Calls _ _ #[_, _, sumV a, sumV x, _, _] _ _
            refine (Leaves_calls (k : Int) 20 (by omega) a x hq32 hx _ _ p q hpa hq (by omega) hqn _ (KW.ext (hE.trans (grow_ext y0))) (hP.ext (grow_ext y0)) (hQ0.ext (hE.trans (grow_ext y0)))).mono ?_; rw [HL.out, twC_some]; rintro e w5 ⟨rfl, hd⟩
            obtain ⟨y1, rfl⟩ := more_ext _ hd; clear hd
            refine hK _ _ ⟨_, rfl⟩ ?_; clear hK K E
            iterate 2 (first | (refine plan_quiet (by simp only [List.getElem?_toArray, List.getElem?_cons_zero, List.getElem?_cons_succ]; rfl) (by rfl) (by rfl) (fun K hK => ?_); go_big_quiet_op; refine hK _ ?_; clear hK K) | (refine plan_skip (by simp only [List.getElem?_toArray, List.getElem?_cons_zero, List.getElem?_cons_succ]; rfl) (by rfl) ?_; simp only [Act.put, List.setIfInBounds_toArray, List.set_cons_zero, List.set_cons_succ]))
            refine plan_one ?_
            (refine plan_loud (by simp only [List.getElem?_toArray, List.getElem?_cons_zero, List.getElem?_cons_succ]; rfl) (by rfl) (by rfl) (fun K E hK => ?_); go_big_op)
            obtain ⟨y2, hy2⟩ := more_of ((grow_ext y1).alloc (.cells #[.string (bs []), .string (bs [])] 57))
            have hN := Blk.new (grow v9 y1) 57 #[.string (bs []), .string (bs [])]
            have hgb : v9.heap.size ≤ (grow v9 y1).heap.size := (grow_ext y1).size
            change K _ ((grow v9 y1).alloc (.cells #[.string (bs []), .string (bs [])] 57))
            rw [hy2] at hN ⊢
            generalize (grow v9 y1).heap.size = gN at *
            clear hy2
            refine hK _ _ ⟨_, rfl⟩ ?_; clear hK K E
            have hN0 : (grow v9 y2).cell? ⟨gN, 0, none⟩ = some (.string (bs [])) := Blk.cell hN 0
            have hN1 : (grow v9 y2).cell? ⟨gN, 1, none⟩ = some (.string (bs [])) := Blk.cell hN 1
            have f0 := Blk.frozen hN 0
            have f1 := Blk.frozen hN 1
            have hNl := Blk.lt hN
            refine plan_one ?_
            (refine plan_loud (by simp only [List.getElem?_toArray, List.getElem?_cons_zero, List.getElem?_cons_succ]; rfl) (by rfl) (by rfl) (fun K E hK => ?_); go_big_op)
            obtain ⟨y3, hy3⟩ := more_of (((grow_ext y2).setCell (p := ⟨gN, 0, none⟩) hgb (.string (bs rr))).setCell (p := ⟨gN, 1, none⟩) hgb (.string (bs ss)))
            change K _ (((grow v9 y2).setCell ⟨gN, 0, none⟩ (.string (bs rr))).setCell ⟨gN, 1, none⟩ (.string (bs ss)))
            rw [hy3]
            refine hK _ _ ⟨_, rfl⟩ ?_; clear hK K E
            clear hy3 hN0 hN1 f0 f1 hNl hN
            iterate 2 (first | (refine plan_quiet (by simp only [List.getElem?_toArray, List.getElem?_cons_zero, List.getElem?_cons_succ]; rfl) (by rfl) (by rfl) (fun K hK => ?_); go_big_quiet_op; refine hK _ ?_; clear hK K) | (refine plan_skip (by simp only [List.getElem?_toArray, List.getElem?_cons_zero, List.getElem?_cons_succ]; rfl) (by rfl) ?_; simp only [Act.put, List.setIfInBounds_toArray, List.set_cons_zero, List.set_cons_succ]))
            refine plan_nil ?_
            have eF := grow_ext y3
            generalize grow v9 y3 = w10 at *
            replace hM := Blk.below hM eF (Blk.lt hM)
            replace hE := hE.trans eF
            clear hma hbl2 hmx hml cq1 eF
            have hma : w10.rangeAt b (off + k * 32) (hcells a) := fun i u hu => ((ext_cells hE).1 b _ hbl).trans (hm0 i u hu)
            have hbl2 : b < w10.heap.size := Nat.lt_of_lt_of_le hbl hE.size
            have hmx : w10.rangeAt w.heap.size 0 (hcells x) := cl_mid hM
            go_wp2_with fail
            refine region_keep0 (fun _ => True) (by kernel_rfl) (by kernel_rfl) ?_
            repeat (first | (refine mix_quiet (by rfl) (by rfl) (fun K hK => ?_); go_big_quiet_op; refine hK _ ?_; clear hK K) | (refine mix_skip (by rfl) ?_; simp only [Act.put, List.setIfInBounds_toArray, List.set_cons_zero, List.set_cons_succ]))
            refine mix_nil ?_
            go_wp2_with fail
            go_ret
            exact ⟨rfl, hE.trans (Ext.refl _).drew⟩
          · skip
            (refine plan_loud (by simp only [List.getElem?_toArray, List.getElem?_cons_zero, List.getElem?_cons_succ]; rfl) (by rfl) (by rfl) (fun K E hK => ?_); go_big_op)
            obtain ⟨y1, hy1⟩ := more_of ((grow_ext y0).alloc (.cells #[.string (bs []), .string (bs [])] 57))
            have hN := Blk.new (grow v9 y0) 57 #[.string (bs []), .string (bs [])]
            have hgb : v9.heap.size ≤ (grow v9 y0).heap.size := (grow_ext y0).size
            change K _ ((grow v9 y0).alloc (.cells #[.string (bs []), .string (bs [])] 57))
            rw [hy1] at hN ⊢
            generalize (grow v9 y0).heap.size = gN at *
            clear hy1
            refine hK _ _ ⟨_, rfl⟩ ?_; clear hK K E
            refine plan_one ?_
            (refine plan_loud (by simp only [List.getElem?_toArray, List.getElem?_cons_zero, List.getElem?_cons_succ]; rfl) (by rfl) (by rfl) (fun K E hK => ?_); go_big_op)
            change Calls _ _ #[_, _, sumV a, sumV x, _, _] _ _
            refine (Leaves_calls (k : Int) 20 (by omega) a x hq32 hx _ _ p q hpa hq (by omega) hqn _ (KW.ext (hE.trans (grow_ext y1))) (hP.ext (grow_ext y1)) (hQ0.ext (hE.trans (grow_ext y1)))).mono ?_; rw [HL.out, twC_some]; rintro e w5 ⟨rfl, hd⟩
            replace hN := Blk.below hN hd (Blk.lt hN)
            obtain ⟨y2, rfl⟩ := more_ext _ hd; clear hd
            refine hK _ _ ⟨_, rfl⟩ ?_; clear hK K E
            iterate 2 (first | (refine plan_quiet (by simp only [List.getElem?_toArray, List.getElem?_cons_zero, List.getElem?_cons_succ]; rfl) (by rfl) (by rfl) (fun K hK => ?_); go_big_quiet_op; refine hK _ ?_; clear hK K) | (refine plan_skip (by simp only [List.getElem?_toArray, List.getElem?_cons_zero, List.getElem?_cons_succ]; rfl) (by rfl) ?_; simp only [Act.put, List.setIfInBounds_toArray, List.set_cons_zero, List.set_cons_succ]))
            have hN0 : (grow v9 y2).cell? ⟨gN, 0, none⟩ = some (.string (bs [])) := Blk.cell hN 0
            have hN1 : (grow v9 y2).cell? ⟨gN, 1, none⟩ = some (.string (bs [])) := Blk.cell hN 1
            have f0 := Blk.frozen hN 0
            have f1 := Blk.frozen hN 1
            have hNl := Blk.lt hN
            refine plan_one ?_
            (refine plan_loud (by simp only [List.getElem?_toArray, List.getElem?_cons_zero, List.getElem?_cons_succ]; rfl) (by rfl) (by rfl) (fun K E hK => ?_); go_big_op)
            obtain ⟨y3, hy3⟩ := more_of (((grow_ext y2).setCell (p := ⟨gN, 0, none⟩) hgb (.string (bs rr))).setCell (p := ⟨gN, 1, none⟩) hgb (.string (bs ss)))
            change K _ (((grow v9 y2).setCell ⟨gN, 0, none⟩ (.string (bs rr))).setCell ⟨gN, 1, none⟩ (.string (bs ss)))
            rw [hy3]
            refine hK _ _ ⟨_, rfl⟩ ?_; clear hK K E
            clear hy3 hN0 hN1 f0 f1 hNl hN
            iterate 2 (first | (refine plan_quiet (by simp only [List.getElem?_toArray, List.getElem?_cons_zero, List.getElem?_cons_succ]; rfl) (by rfl) (by rfl) (fun K hK => ?_); go_big_quiet_op; refine hK _ ?_; clear hK K) | (refine plan_skip (by simp only [List.getElem?_toArray, List.getElem?_cons_zero, List.getElem?_cons_succ]; rfl) (by rfl) ?_; simp only [Act.put, List.setIfInBounds_toArray, List.set_cons_zero, List.set_cons_succ]))
            refine plan_nil ?_
            have eF := grow_ext y3
            generalize grow v9 y3 = w10 at *
            replace hM := Blk.below hM eF (Blk.lt hM)
            replace hE := hE.trans eF
            clear hma hbl2 hmx hml cq1 eF
            have hma : w10.rangeAt b (off + k * 32) (hcells a) := fun i u hu => ((ext_cells hE).1 b _ hbl).trans (hm0 i u hu)
            have hbl2 : b < w10.heap.size := Nat.lt_of_lt_of_le hbl hE.size
            have hmx : w10.rangeAt w.heap.size 0 (hcells x) := cl_mid hM
            go_wp2_with fail
            refine region_keep0 (fun _ => True) (by kernel_rfl) (by kernel_rfl) ?_
            repeat (first | (refine mix_quiet (by rfl) (by rfl) (fun K hK => ?_); go_big_quiet_op; refine hK _ ?_; clear hK K) | (refine mix_skip (by rfl) ?_; simp only [Act.put, List.setIfInBounds_toArray, List.set_cons_zero, List.set_cons_succ]))
            refine mix_nil ?_
            go_wp2_with fail
            go_ret
            exact ⟨rfl, hE.trans (Ext.refl _).drew⟩
      · have dz : decide (y = z) = false := decide_eq_false hyz
        rw [dz] at heqz
        clear dz hyz
        refine region_keep0 (fun _ => True) (by kernel_rfl) (by kernel_rfl) ?_
        have K0 : Ext v5 v5.drew := (Ext.refl v5).drew
        iterate 3 (first | (refine mix_quiet (by rfl) (by rfl) (fun K hK => ?_); go_big_quiet_op; refine hK _ ?_; clear hK K) | (refine mix_skip (by rfl) ?_; simp only [Act.put, List.setIfInBounds_toArray, List.set_cons_zero, List.set_cons_succ]))
        refine held_row (by rfl) (by rfl) 23 (.tmp 12) rfl g7 (by rfl) 23 _ _ hY trivial Tryd.underlying23 rfl (size32.trans (by simp [hy])) ?_
        simp only [Act.put, List.setIfInBounds_toArray, List.set_cons_zero, List.set_cons_succ]
        iterate 1 (first | (refine mix_quiet (by rfl) (by rfl) (fun K hK => ?_); go_big_quiet_op; refine hK _ ?_; clear hK K) | (refine mix_skip (by rfl) ?_; simp only [Act.put, List.setIfInBounds_toArray, List.set_cons_zero, List.set_cons_succ]))
        (refine mix_loud (by rfl) (by rfl) (fun K E hK => ?_); go_big_op)
        refine (refRoot_calls _ f hf _ (hS8 _ (hE.trans K0))).mono ?_; rw [← Hz.out]; rintro e u1 ⟨rfl, K1⟩
        have K1 := K0.trans K1
        refine hK _ _ (held_of (Keep.of_ext K1)) ?_; clear hK K E
        unfold sumV
        repeat (first | (refine mix_quiet (by rfl) (by rfl) (fun K hK => ?_); go_big_quiet_op; refine hK _ ?_; clear hK K) | (refine mix_skip (by rfl) ?_; simp only [Act.put, List.setIfInBounds_toArray, List.set_cons_zero, List.set_cons_succ]))
        refine mix_nil ?_
        go_wp2_with fail
        go_ret
        exact ⟨rfl, hE.trans K1⟩
  · have hcI0 : ¬ (20 : Int) < (l.length : Int) := by omega
    go_enter Tryd.func11, Tryd.ntmps11
    go_wp2_with fail
    have hM : Blk (w.alloc (.cells (hcells x ++ [Value.slice Pq q.length kq]).toArray 62)) w.heap.size 62 (hcells x ++ [Value.slice Pq q.length kq]).toArray := Blk.new _ _ _
    have hE : Ext w (w.alloc (.cells (hcells x ++ [Value.slice Pq q.length kq]).toArray 62)) := (Ext.refl w).alloc _
    generalize w.alloc (.cells (hcells x ++ [Value.slice Pq q.length kq]).toArray 62) = w1 at *
    refine (awake13_calls _ (KW.ext hE)).mono ?_; rintro e v2 ⟨rfl, e1⟩
    replace hM := Blk.below hM e1 (Blk.lt hM)
    replace hE := hE.trans e1
    clear e1
    have cq1 : v2.cell? ⟨w.heap.size, 32, none⟩ = some (.slice Pq q.length kq) := cl_cell hx hM
    have hmx : v2.rangeAt w.heap.size 0 (hcells x) := cl_mid hM
    have hml := Blk.lt hM
    have hf : AllH l := hl
    have hf20 : l.length ≤ 20 := by omega
    by_cases h0 : l.length = 0
    · have hb : ((l.length : Int) == 0) = true := by rw [beq_iff_eq]; omega
      have H0 := Lib.hid h0
      clear h0
      go_wp2_with fail
      go_ret
      exact ⟨rfl, hE⟩
    have hpos : 0 < l.length := by omega
    have hb : ((l.length : Int) == 0) = false := by rw [beq_eq_false_iff_ne]; omega
    rcases hA with ⟨_, hl1, _⟩ | ⟨b, off, rfl⟩
    · rw [hl1] at h0; simp at h0
    have hS8 : ∀ W, Ext w W → SlS W W.heap.size (.slice (some ⟨b, off, none⟩) l.length cap) l := fun W hW => ⟨_, cap, rfl, .inr ⟨b, off, rfl⟩, hc, hc63, (hr.below hW (Nat.le_refl _)).more hW.size⟩
    obtain ⟨r, hr'⟩ : ∃ r, r = n.tmod (l.length : Int) := ⟨_, rfl⟩
    have hr1 : r < (l.length : Int) := by rw [hr']; exact Int.tmod_lt_of_pos n (by omega)
    have hr0 : -(l.length : Int) < r := by
      have := Int.lt_tmod_of_pos n (show (0 : Int) < (l.length : Int) by omega)
      omega
    replace hr' := hr'.symm
    by_cases hneg : r < 0
    · obtain ⟨k, hk⟩ : ∃ k : Nat, -r = (k : Int) := ⟨(-r).toNat, by omega⟩
      have hkm : k < l.length := by omega
      have hkI : (k : Int) < (l.length : Int) := by omega
      have hnn := hneg
      go_wp2_with fail
      clear hr' hr0 hr1
      have hpf := path_fold l k hkm (by omega)
      have hq32 : l[k].length = 32 := hf _ (List.getElem_mem hkm)
      have hpl := pathS_le l k
      have hpa := path_all _ l k rfl hf
      have hSw := hS8 w (Ext.refl w)
      obtain ⟨A', cap', hv', -, -, -, hrw⟩ := hSw
      injection hv' with v1 v2 v3
      subst v1
      obtain ⟨b', off', hbo, hbl, hm0⟩ := rds_mid hrw hf (k := k) hkm
      injection hbo with hbo
      injection hbo with b1 b2 b3
      subst b1 b2
      clear v2 v3 b3 hrw
      generalize l[k] = a at *
      obtain ⟨p, hp⟩ : ∃ p, p = pathS l k := ⟨_, rfl⟩
      have Hp := Lib.hid hp
      rw [← hp] at hpf hpl hpa
      clear hp
      refine (refPath_calls _ l k (by omega) hkm hf _ (hS8 _ hE)).mono ?_; rw [← Hp.out]; rintro e w3 ⟨v3, rfl, hP, e3⟩
      obtain ⟨Ap, cp, hv3, _⟩ := id hP
      subst hv3
      replace hM := Blk.below hM e3 (Blk.lt hM)
      replace hE := hE.trans e3
      replace cq1 : w3.cell? ⟨w.heap.size, 32, none⟩ = some (.slice Pq q.length kq) := cl_cell hx hM
      replace hmx : w3.rangeAt w.heap.size 0 (hcells x) := cl_mid hM
      replace hml := Blk.lt hM
      clear e3
      have hma : w3.rangeAt b (off + k * 32) (hcells a) := fun i u hu => ((ext_cells hE).1 b _ hbl).trans (hm0 i u hu)
      have hbl2 : b < w3.heap.size := Nat.lt_of_lt_of_le hbl hE.size
      have hpx := foldP_length x hx (k : Int) (l.length : Int) q
      obtain ⟨P, hP1⟩ : ∃ P, P = foldP x (k : Int) (l.length : Int) q := ⟨_, rfl⟩
      rw [← hP1] at hpx
      obtain ⟨y, is⟩ := P
      have hy : y.length = 32 := hpx
      have HP1 := Lib.hid hP1
      have HPF := Lib.hid hpf
      clear hpx hP1 hpf
      go_wp2_with (refine stop_load 23 (.tmp 43) rfl ?_)
      refine ⟨?_⟩
      refine wpList_load_mid rfl 23 (.tmp 43) rfl w.heap.size (0) (by rfl) (hcells x) _ hmx Tryd.underlying23 rfl (size32l _ hx) ?_
      simp only [Act.put, List.setIfInBounds_toArray, List.set_cons_zero, List.set_cons_succ]
      unfold hcells
      go_wp2_with fail
      change Calls _ _ #[sumV x, _, _, _] _ _
      refine (refFold_any x hx (k : Int) (l.length : Int) (by omega) _ q hq _ (hQ0.ext hE)).mono ?_; rw [← HP1.out]; rintro e v4 ⟨rfl, e3⟩
      replace hM := Blk.below hM e3 (Blk.lt hM)
      replace hP := hP.ext e3
      replace hE := hE.trans e3
      replace cq1 : v4.cell? ⟨w.heap.size, 32, none⟩ = some (.slice Pq q.length kq) := cl_cell hx hM
      replace hmx : v4.rangeAt w.heap.size 0 (hcells x) := cl_mid hM
      replace hml := Blk.lt hM
      replace hma : v4.rangeAt b (off + k * 32) (hcells a) := fun i u hu => ((ext_cells hE).1 b _ hbl).trans (hm0 i u hu)
      replace hbl2 : b < v4.heap.size := Nat.lt_of_lt_of_le hbl hE.size
      clear e3
      try unfold sumV
      go_wp2_with (refine stop_store 23 (.tmp 12) (.tmp 51) rfl ?_)
      refine ⟨?_⟩
      change wpList _ _ _ _ _ (v4.alloc (.cells ((zerosB 32).map byteV).toArray 23))
      have hY0 : ArrB (v4.alloc (.cells ((zerosB 32).map byteV).toArray 23)) v4.heap.size 23 (zerosB 32) := Blk.new _ _ _
      refine wpList_store_row rfl 23 (.tmp 12) (.tmp 51) rfl v4.heap.size ((y).map byteV).toArray (by rfl) (by rfl) 23 _ hY0 (size32.trans (by simp [hy])) (by simp [hy, zerosB]) (by simp [byteV, Value.oneCell']) ?_
      simp only [Act.put, List.setIfInBounds_toArray, List.set_cons_zero, List.set_cons_succ]
      have hY : ArrB ((v4.alloc (.cells ((zerosB 32).map byteV).toArray 23)).setRow v4.heap.size ((y).map byteV).toArray) v4.heap.size 23 (y) := Blk.row hY0 _
      have e6 : Ext v4 ((v4.alloc (.cells ((zerosB 32).map byteV).toArray 23)).setRow v4.heap.size ((y).map byteV).toArray) := ((Ext.refl v4).alloc _).row (Nat.le_refl _) _
      clear hY0
      generalize (v4.alloc (.cells ((zerosB 32).map byteV).toArray 23)).setRow v4.heap.size ((y).map byteV).toArray = v5 at *
      have g7l := Blk.lt hY
      obtain ⟨g7, g7e⟩ : ∃ g7, g7 = v4.heap.size := ⟨_, rfl⟩
      rw [← g7e] at hY g7l
      try rw [← g7e]
      have g7b : v4.heap.size ≤ g7 := by omega
      replace hM := Blk.below hM e6 (Blk.lt hM)
      replace hP := hP.ext e6
      replace hE := hE.trans e6
      replace cq1 : v5.cell? ⟨w.heap.size, 32, none⟩ = some (.slice Pq q.length kq) := cl_cell hx hM
      replace hmx : v5.rangeAt w.heap.size 0 (hcells x) := cl_mid hM
      replace hml := Blk.lt hM
      replace hma : v5.rangeAt b (off + k * 32) (hcells a) := fun i u hu => ((ext_cells hE).1 b _ hbl).trans (hm0 i u hu)
      replace hbl2 : b < v5.heap.size := Nat.lt_of_lt_of_le hbl hE.size
      clear e6
      clear g7e
      go_wp2_with fail
      cases is
      · skip
        refine region_keep0 (fun _ => True) (by kernel_rfl) (by kernel_rfl) ?_
        repeat (first | (refine mix_quiet (by rfl) (by rfl) (fun K hK => ?_); go_big_quiet_op; refine hK _ ?_; clear hK K) | (refine mix_skip (by rfl) ?_; simp only [Act.put, List.setIfInBounds_toArray, List.set_cons_zero, List.set_cons_succ]))
        refine mix_nil ?_
        go_wp2_with fail
        go_ret
        exact ⟨rfl, hE.trans (Ext.refl _).drew⟩
      have hrl := rootS_length l hf
      obtain ⟨z, hz⟩ : ∃ z, z = rootS l := ⟨_, rfl⟩
      rw [← hz] at hrl HPF
      have Hz := Lib.hid hz
      clear hz
      have heqz := fun w : World => eq_sum y z hy hrl w
      have hqn := fold_len x (k : Int) (l.length : Int) q (by omega) (by rw [← HP1.out])
      by_cases hyz : y = z
      · have dz : decide (y = z) = true := decide_eq_true hyz
        subst hyz
        rw [dz] at heqz
        clear dz
        have hLT := leaves_tell (k : Int) (l.length : Int) a x y p q hq32 hx hpa hq HPF.out HP1.out.symm
        refine region_keep0 (fun _ => True) (by kernel_rfl) (by kernel_rfl) ?_
        have K0 : Ext v5 v5.drew := (Ext.refl v5).drew
        iterate 3 (first | (refine mix_quiet (by rfl) (by rfl) (fun K hK => ?_); go_big_quiet_op; refine hK _ ?_; clear hK K) | (refine mix_skip (by rfl) ?_; simp only [Act.put, List.setIfInBounds_toArray, List.set_cons_zero, List.set_cons_succ]))
        refine held_row (by rfl) (by rfl) 23 (.tmp 12) rfl g7 (by rfl) 23 _ _ hY trivial Tryd.underlying23 rfl (size32.trans (by simp [hy])) ?_
        simp only [Act.put, List.setIfInBounds_toArray, List.set_cons_zero, List.set_cons_succ]
        iterate 1 (first | (refine mix_quiet (by rfl) (by rfl) (fun K hK => ?_); go_big_quiet_op; refine hK _ ?_; clear hK K) | (refine mix_skip (by rfl) ?_; simp only [Act.put, List.setIfInBounds_toArray, List.set_cons_zero, List.set_cons_succ]))
        (refine mix_loud (by rfl) (by rfl) (fun K E hK => ?_); go_big_op)
        refine (refRoot_calls _ l hf _ (hS8 _ (hE.trans K0))).mono ?_; rw [← Hz.out]; rintro e u1 ⟨rfl, K1⟩
        have K1 := K0.trans K1
        refine hK _ _ (held_of (Keep.of_ext K1)) ?_; clear hK K E
        unfold sumV
        repeat (first | (refine mix_quiet (by rfl) (by rfl) (fun K hK => ?_); go_big_quiet_op; refine hK _ ?_; clear hK K) | (refine mix_skip (by rfl) ?_; simp only [Act.put, List.setIfInBounds_toArray, List.set_cons_zero, List.set_cons_succ]))
        refine mix_nil ?_
        clear K0
        replace hM := Blk.below hM K1 (Blk.lt hM)
        replace hP := hP.ext K1
        replace hY := Blk.below hY K1 (Blk.lt hY)
        replace hE := hE.trans K1
        replace cq1 : u1.cell? ⟨w.heap.size, 32, none⟩ = some (.slice Pq q.length kq) := cl_cell hx hM
        replace hmx : u1.rangeAt w.heap.size 0 (hcells x) := cl_mid hM
        replace hml := Blk.lt hM
        replace hma : u1.rangeAt b (off + k * 32) (hcells a) := fun i u hu => ((ext_cells hE).1 b _ hbl).trans (hm0 i u hu)
        replace hbl2 : b < u1.heap.size := Nat.lt_of_lt_of_le hbl hE.size
        clear K1
        have heqx := fun w : World => eq_sum x a hx hq32 w
        by_cases hpq : p = q
        · have HPQ : Hid (decide (p = q) = true) := Lib.hid (decide_eq_true hpq)
          by_cases hax : a = x
          · have HL := Lib.hid (hLT.1 ⟨hax, hpq⟩)
            have dx : decide (x = a) = true := decide_eq_true hax.symm
            rw [dx] at heqx
            clear dx hax hpq hLT
            go_wp2_with fail
            refine (Same_calls _ _ p q hpa hq _ hP (hQ0.ext hE)).mono ?_; rw [HPQ.out]; rintro e v9 ⟨rfl, e8⟩
            replace hM := Blk.below hM e8 (Blk.lt hM)
            replace hP := hP.ext e8
            replace hY := Blk.below hY e8 (Blk.lt hY)
            replace hE := hE.trans e8
            replace cq1 : v9.cell? ⟨w.heap.size, 32, none⟩ = some (.slice Pq q.length kq) := cl_cell hx hM
            replace hmx : v9.rangeAt w.heap.size 0 (hcells x) := cl_mid hM
            replace hml := Blk.lt hM
            replace hma : v9.rangeAt b (off + k * 32) (hcells a) := fun i u hu => ((ext_cells hE).1 b _ hbl).trans (hm0 i u hu)
            replace hbl2 : b < v9.heap.size := Nat.lt_of_lt_of_le hbl hE.size
            clear e8
            go_wp2_with fail
            refine region_plan 19 (Plan.run [0, 1, 2, 3, 4, 5, 6, 7, 8, 9, 10, 11] (.two 12 16 (Plan.run [13, 14, 16, 17, 15, 18] .nil) (Plan.run [12, 13, 14, 17, 15, 18] .nil))) (by kernel_rfl) (by kernel_rfl) (fun y0 => ?_); simp only [Plan.run, List.drop_succ_cons, List.drop_zero, List.drop_nil]
            iterate 6 (first | (refine plan_quiet (by simp only [List.getElem?_toArray, List.getElem?_cons_zero, List.getElem?_cons_succ]; rfl) (by rfl) (by rfl) (fun K hK => ?_); go_big_quiet_op; refine hK _ ?_; clear hK K) | (refine plan_skip (by simp only [List.getElem?_toArray, List.getElem?_cons_zero, List.getElem?_cons_succ]; rfl) (by rfl) ?_; simp only [Act.put, List.setIfInBounds_toArray, List.set_cons_zero, List.set_cons_succ]))
            refine plan_mid (by simp only [List.getElem?_toArray, List.getElem?_cons_zero, List.getElem?_cons_succ]; rfl) (by rfl) (by rfl) 23 (.tmp 72) rfl b (off + k * 32) (by rfl) _ _ hma hbl2 Tryd.underlying23 rfl (size32l _ hq32) ?_
            simp only [Act.put, List.setIfInBounds_toArray, List.set_cons_zero, List.set_cons_succ]
            iterate 1 (first | (refine plan_quiet (by simp only [List.getElem?_toArray, List.getElem?_cons_zero, List.getElem?_cons_succ]; rfl) (by rfl) (by rfl) (fun K hK => ?_); go_big_quiet_op; refine hK _ ?_; clear hK K) | (refine plan_skip (by simp only [List.getElem?_toArray, List.getElem?_cons_zero, List.getElem?_cons_succ]; rfl) (by rfl) ?_; simp only [Act.put, List.setIfInBounds_toArray, List.set_cons_zero, List.set_cons_succ]))
            refine plan_mid (by simp only [List.getElem?_toArray, List.getElem?_cons_zero, List.getElem?_cons_succ]; rfl) (by rfl) (by rfl) 23 (.tmp 74) rfl w.heap.size 0 (by rfl) _ _ hmx hml Tryd.underlying23 rfl (size32l _ hx) ?_
            simp only [Act.put, List.setIfInBounds_toArray, List.set_cons_zero, List.set_cons_succ]
            unfold hcells
            iterate 3 (first | (refine plan_quiet (by simp only [List.getElem?_toArray, List.getElem?_cons_zero, List.getElem?_cons_succ]; rfl) (by rfl) (by rfl) (fun K hK => ?_); go_big_quiet_op; refine hK _ ?_; clear hK K) | (refine plan_skip (by simp only [List.getElem?_toArray, List.getElem?_cons_zero, List.getElem?_cons_succ]; rfl) (by rfl) ?_; simp only [Act.put, List.setIfInBounds_toArray, List.set_cons_zero, List.set_cons_succ]))
            refine plan_two ?_ ?_
            · skip
              (refine plan_loud (by simp only [List.getElem?_toArray, List.getElem?_cons_zero, List.getElem?_cons_succ]; rfl) (by rfl) (by rfl) (fun K E hK => ?_); go_big_op)
              change Calls _ _ #[_, _, sumV a, sumV x, _, _] _ _
              refine (Leaves_calls (k : Int) (l.length : Int) (by omega) a x hq32 hx _ _ p q hpa hq (by omega) hqn _ (KW.ext (hE.trans (grow_ext y0))) (hP.ext (grow_ext y0)) (hQ0.ext (hE.trans (grow_ext y0)))).mono ?_; rw [HL.out, twC_none]; rintro e w5 ⟨rfl, hd⟩
              obtain ⟨y1, rfl⟩ := more_ext _ hd; clear hd
              refine hK _ _ ⟨_, rfl⟩ ?_; clear hK K E
              iterate 2 (first | (refine plan_quiet (by simp only [List.getElem?_toArray, List.getElem?_cons_zero, List.getElem?_cons_succ]; rfl) (by rfl) (by rfl) (fun K hK => ?_); go_big_quiet_op; refine hK _ ?_; clear hK K) | (refine plan_skip (by simp only [List.getElem?_toArray, List.getElem?_cons_zero, List.getElem?_cons_succ]; rfl) (by rfl) ?_; simp only [Act.put, List.setIfInBounds_toArray, List.set_cons_zero, List.set_cons_succ]))
              refine plan_one ?_
              (refine plan_loud (by simp only [List.getElem?_toArray, List.getElem?_cons_zero, List.getElem?_cons_succ]; rfl) (by rfl) (by rfl) (fun K E hK => ?_); go_big_op)
              obtain ⟨y2, hy2⟩ := more_of ((grow_ext y1).alloc (.cells #[.string (bs []), .string (bs [])] 57))
              have hN := Blk.new (grow v9 y1) 57 #[.string (bs []), .string (bs [])]
              have hgb : v9.heap.size ≤ (grow v9 y1).heap.size := (grow_ext y1).size
              change K _ ((grow v9 y1).alloc (.cells #[.string (bs []), .string (bs [])] 57))
              rw [hy2] at hN ⊢
              generalize (grow v9 y1).heap.size = gN at *
              clear hy2
              refine hK _ _ ⟨_, rfl⟩ ?_; clear hK K E
              have hN0 : (grow v9 y2).cell? ⟨gN, 0, none⟩ = some (.string (bs [])) := Blk.cell hN 0
              have hN1 : (grow v9 y2).cell? ⟨gN, 1, none⟩ = some (.string (bs [])) := Blk.cell hN 1
              have f0 := Blk.frozen hN 0
              have f1 := Blk.frozen hN 1
              have hNl := Blk.lt hN
              refine plan_one ?_
              (refine plan_loud (by simp only [List.getElem?_toArray, List.getElem?_cons_zero, List.getElem?_cons_succ]; rfl) (by rfl) (by rfl) (fun K E hK => ?_); go_big_op)
              obtain ⟨y3, hy3⟩ := more_of (((grow_ext y2).setCell (p := ⟨gN, 0, none⟩) hgb (.string (bs []))).setCell (p := ⟨gN, 1, none⟩) hgb (.string (bs [])))
              change K _ (((grow v9 y2).setCell ⟨gN, 0, none⟩ (.string (bs []))).setCell ⟨gN, 1, none⟩ (.string (bs [])))
              rw [hy3]
              refine hK _ _ ⟨_, rfl⟩ ?_; clear hK K E
              clear hy3 hN0 hN1 f0 f1 hNl hN
              iterate 2 (first | (refine plan_quiet (by simp only [List.getElem?_toArray, List.getElem?_cons_zero, List.getElem?_cons_succ]; rfl) (by rfl) (by rfl) (fun K hK => ?_); go_big_quiet_op; refine hK _ ?_; clear hK K) | (refine plan_skip (by simp only [List.getElem?_toArray, List.getElem?_cons_zero, List.getElem?_cons_succ]; rfl) (by rfl) ?_; simp only [Act.put, List.setIfInBounds_toArray, List.set_cons_zero, List.set_cons_succ]))
              refine plan_nil ?_
              have eF := grow_ext y3
              generalize grow v9 y3 = w10 at *
              replace hM := Blk.below hM eF (Blk.lt hM)
              replace hE := hE.trans eF
              clear hma hbl2 hmx hml cq1 eF
              have hma : w10.rangeAt b (off + k * 32) (hcells a) := fun i u hu => ((ext_cells hE).1 b _ hbl).trans (hm0 i u hu)
              have hbl2 : b < w10.heap.size := Nat.lt_of_lt_of_le hbl hE.size
              have hmx : w10.rangeAt w.heap.size 0 (hcells x) := cl_mid hM
              go_wp2_with fail
              refine region_keep0 (fun _ => True) (by kernel_rfl) (by kernel_rfl) ?_
              iterate 6 (first | (refine mix_quiet (by rfl) (by rfl) (fun K hK => ?_); go_big_quiet_op; refine hK _ ?_; clear hK K) | (refine mix_skip (by rfl) ?_; simp only [Act.put, List.setIfInBounds_toArray, List.set_cons_zero, List.set_cons_succ]))
              refine held_mid (by rfl) (by rfl) 23 (.tmp 87) rfl w.heap.size 0 (by rfl) (hcells x) _ hmx (Blk.lt hM) trivial Tryd.underlying23 rfl (size32l _ hx) ?_
              simp only [Act.put, List.setIfInBounds_toArray, List.set_cons_zero, List.set_cons_succ]
              iterate 3 (first | (refine mix_quiet (by rfl) (by rfl) (fun K hK => ?_); go_big_quiet_op; refine hK _ ?_; clear hK K) | (refine mix_skip (by rfl) ?_; simp only [Act.put, List.setIfInBounds_toArray, List.set_cons_zero, List.set_cons_succ]))
              refine held_mid (by rfl) (by rfl) 23 (.tmp 91) rfl b (off + k * 32) (by rfl) (hcells a) _ hma hbl2 trivial Tryd.underlying23 rfl (size32l _ hq32) ?_
              simp only [Act.put, List.setIfInBounds_toArray, List.set_cons_zero, List.set_cons_succ]
              unfold hcells
              repeat (first | (refine mix_quiet (by rfl) (by rfl) (fun K hK => ?_); go_big_quiet_op; refine hK _ ?_; clear hK K) | (refine mix_skip (by rfl) ?_; simp only [Act.put, List.setIfInBounds_toArray, List.set_cons_zero, List.set_cons_succ]))
              refine mix_nil ?_
              go_wp2_with fail
              go_ret
              exact ⟨rfl, hE.trans (Ext.refl _).drew⟩
            · skip
              (refine plan_loud (by simp only [List.getElem?_toArray, List.getElem?_cons_zero, List.getElem?_cons_succ]; rfl) (by rfl) (by rfl) (fun K E hK => ?_); go_big_op)
              obtain ⟨y1, hy1⟩ := more_of ((grow_ext y0).alloc (.cells #[.string (bs []), .string (bs [])] 57))
              have hN := Blk.new (grow v9 y0) 57 #[.string (bs []), .string (bs [])]
              have hgb : v9.heap.size ≤ (grow v9 y0).heap.size := (grow_ext y0).size
              change K _ ((grow v9 y0).alloc (.cells #[.string (bs []), .string (bs [])] 57))
              rw [hy1] at hN ⊢
              generalize (grow v9 y0).heap.size = gN at *
              clear hy1
              refine hK _ _ ⟨_, rfl⟩ ?_; clear hK K E
              refine plan_one ?_
              (refine plan_loud (by simp only [List.getElem?_toArray, List.getElem?_cons_zero, List.getElem?_cons_succ]; rfl) (by rfl) (by rfl) (fun K E hK => ?_); go_big_op)
              change Calls _ _ #[_, _, sumV a, sumV x, _, _] _ _
              refine (Leaves_calls (k : Int) (l.length : Int) (by omega) a x hq32 hx _ _ p q hpa hq (by omega) hqn _ (KW.ext (hE.trans (grow_ext y1))) (hP.ext (grow_ext y1)) (hQ0.ext (hE.trans (grow_ext y1)))).mono ?_; rw [HL.out, twC_none]; rintro e w5 ⟨rfl, hd⟩
              replace hN := Blk.below hN hd (Blk.lt hN)
              obtain ⟨y2, rfl⟩ := more_ext _ hd; clear hd
              refine hK _ _ ⟨_, rfl⟩ ?_; clear hK K E
              iterate 2 (first | (refine plan_quiet (by simp only [List.getElem?_toArray, List.getElem?_cons_zero, List.getElem?_cons_succ]; rfl) (by rfl) (by rfl) (fun K hK => ?_); go_big_quiet_op; refine hK _ ?_; clear hK K) | (refine plan_skip (by simp only [List.getElem?_toArray, List.getElem?_cons_zero, List.getElem?_cons_succ]; rfl) (by rfl) ?_; simp only [Act.put, List.setIfInBounds_toArray, List.set_cons_zero, List.set_cons_succ]))
              have hN0 : (grow v9 y2).cell? ⟨gN, 0, none⟩ = some (.string (bs [])) := Blk.cell hN 0
              have hN1 : (grow v9 y2).cell? ⟨gN, 1, none⟩ = some (.string (bs [])) := Blk.cell hN 1
              have f0 := Blk.frozen hN 0
              have f1 := Blk.frozen hN 1
              have hNl := Blk.lt hN
              refine plan_one ?_
              (refine plan_loud (by simp only [List.getElem?_toArray, List.getElem?_cons_zero, List.getElem?_cons_succ]; rfl) (by rfl) (by rfl) (fun K E hK => ?_); go_big_op)
              obtain ⟨y3, hy3⟩ := more_of (((grow_ext y2).setCell (p := ⟨gN, 0, none⟩) hgb (.string (bs []))).setCell (p := ⟨gN, 1, none⟩) hgb (.string (bs [])))
              change K _ (((grow v9 y2).setCell ⟨gN, 0, none⟩ (.string (bs []))).setCell ⟨gN, 1, none⟩ (.string (bs [])))
              rw [hy3]
              refine hK _ _ ⟨_, rfl⟩ ?_; clear hK K E
              clear hy3 hN0 hN1 f0 f1 hNl hN
              iterate 2 (first | (refine plan_quiet (by simp only [List.getElem?_toArray, List.getElem?_cons_zero, List.getElem?_cons_succ]; rfl) (by rfl) (by rfl) (fun K hK => ?_); go_big_quiet_op; refine hK _ ?_; clear hK K) | (refine plan_skip (by simp only [List.getElem?_toArray, List.getElem?_cons_zero, List.getElem?_cons_succ]; rfl) (by rfl) ?_; simp only [Act.put, List.setIfInBounds_toArray, List.set_cons_zero, List.set_cons_succ]))
              refine plan_nil ?_
              have eF := grow_ext y3
              generalize grow v9 y3 = w10 at *
              replace hM := Blk.below hM eF (Blk.lt hM)
              replace hE := hE.trans eF
              clear hma hbl2 hmx hml cq1 eF
              have hma : w10.rangeAt b (off + k * 32) (hcells a) := fun i u hu => ((ext_cells hE).1 b _ hbl).trans (hm0 i u hu)
              have hbl2 : b < w10.heap.size := Nat.lt_of_lt_of_le hbl hE.size
              have hmx : w10.rangeAt w.heap.size 0 (hcells x) := cl_mid hM
              go_wp2_with fail
              refine region_keep0 (fun _ => True) (by kernel_rfl) (by kernel_rfl) ?_
              iterate 6 (first | (refine mix_quiet (by rfl) (by rfl) (fun K hK => ?_); go_big_quiet_op; refine hK _ ?_; clear hK K) | (refine mix_skip (by rfl) ?_; simp only [Act.put, List.setIfInBounds_toArray, List.set_cons_zero, List.set_cons_succ]))
              refine held_mid (by rfl) (by rfl) 23 (.tmp 87) rfl w.heap.size 0 (by rfl) (hcells x) _ hmx (Blk.lt hM) trivial Tryd.underlying23 rfl (size32l _ hx) ?_
              simp only [Act.put, List.setIfInBounds_toArray, List.set_cons_zero, List.set_cons_succ]
              iterate 3 (first | (refine mix_quiet (by rfl) (by rfl) (fun K hK => ?_); go_big_quiet_op; refine hK _ ?_; clear hK K) | (refine mix_skip (by rfl) ?_; simp only [Act.put, List.setIfInBounds_toArray, List.set_cons_zero, List.set_cons_succ]))
              refine held_mid (by rfl) (by rfl) 23 (.tmp 91) rfl b (off + k * 32) (by rfl) (hcells a) _ hma hbl2 trivial Tryd.underlying23 rfl (size32l _ hq32) ?_
              simp only [Act.put, List.setIfInBounds_toArray, List.set_cons_zero, List.set_cons_succ]
              unfold hcells
              repeat (first | (refine mix_quiet (by rfl) (by rfl) (fun K hK => ?_); go_big_quiet_op; refine hK _ ?_; clear hK K) | (refine mix_skip (by rfl) ?_; simp only [Act.put, List.setIfInBounds_toArray, List.set_cons_zero, List.set_cons_succ]))
              refine mix_nil ?_
              go_wp2_with fail
              go_ret
              exact ⟨rfl, hE.trans (Ext.refl _).drew⟩
          · obtain ⟨rr, ss, hrs⟩ := hLT.2 (fun h => hax h.1)
            have HL := Lib.hid hrs
            have dx : decide (x = a) = false := decide_eq_false (fun h => hax h.symm)
            rw [dx] at heqx
            clear dx hax hpq hLT hrs
            go_wp2_with fail
            refine (Same_calls _ _ p q hpa hq _ hP (hQ0.ext hE)).mono ?_; rw [HPQ.out]; rintro e v9 ⟨rfl, e8⟩
            replace hM := Blk.below hM e8 (Blk.lt hM)
            replace hP := hP.ext e8
            replace hY := Blk.below hY e8 (Blk.lt hY)
            replace hE := hE.trans e8
            replace cq1 : v9.cell? ⟨w.heap.size, 32, none⟩ = some (.slice Pq q.length kq) := cl_cell hx hM
            replace hmx : v9.rangeAt w.heap.size 0 (hcells x) := cl_mid hM
            replace hml := Blk.lt hM
            replace hma : v9.rangeAt b (off + k * 32) (hcells a) := fun i u hu => ((ext_cells hE).1 b _ hbl).trans (hm0 i u hu)
            replace hbl2 : b < v9.heap.size := Nat.lt_of_lt_of_le hbl hE.size
            clear e8
            go_wp2_with fail
            refine region_plan 19 (Plan.run [0, 1, 2, 3, 4, 5, 6, 7, 8, 9, 10, 11] (.two 12 16 (Plan.run [13, 14, 16, 17, 15, 18] .nil) (Plan.run [12, 13, 14, 17, 15, 18] .nil))) (by kernel_rfl) (by kernel_rfl) (fun y0 => ?_); simp only [Plan.run, List.drop_succ_cons, List.drop_zero, List.drop_nil]
            iterate 6 (first | (refine plan_quiet (by simp only [List.getElem?_toArray, List.getElem?_cons_zero, List.getElem?_cons_succ]; rfl) (by rfl) (by rfl) (fun K hK => ?_); go_big_quiet_op; refine hK _ ?_; clear hK K) | (refine plan_skip (by simp only [List.getElem?_toArray, List.getElem?_cons_zero, List.getElem?_cons_succ]; rfl) (by rfl) ?_; simp only [Act.put, List.setIfInBounds_toArray, List.set_cons_zero, List.set_cons_succ]))
            refine plan_mid (by simp only [List.getElem?_toArray, List.getElem?_cons_zero, List.getElem?_cons_succ]; rfl) (by rfl) (by rfl) 23 (.tmp 72) rfl b (off + k * 32) (by rfl) _ _ hma hbl2 Tryd.underlying23 rfl (size32l _ hq32) ?_
            simp only [Act.put, List.setIfInBounds_toArray, List.set_cons_zero, List.set_cons_succ]
            iterate 1 (first | (refine plan_quiet (by simp only [List.getElem?_toArray, List.getElem?_cons_zero, List.getElem?_cons_succ]; rfl) (by rfl) (by rfl) (fun K hK => ?_); go_big_quiet_op; refine hK _ ?_; clear hK K) | (refine plan_skip (by simp only [List.getElem?_toArray, List.getElem?_cons_zero, List.getElem?_cons_succ]; rfl) (by rfl) ?_; simp only [Act.put, List.setIfInBounds_toArray, List.set_cons_zero, List.set_cons_succ]))
            refine plan_mid (by simp only [List.getElem?_toArray, List.getElem?_cons_zero, List.getElem?_cons_succ]; rfl) (by rfl) (by rfl) 23 (.tmp 74) rfl w.heap.size 0 (by rfl) _ _ hmx hml Tryd.underlying23 rfl (size32l _ hx) ?_
            simp only [Act.put, List.setIfInBounds_toArray, List.set_cons_zero, List.set_cons_succ]
            unfold hcells
            iterate 3 (first | (refine plan_quiet (by simp only [List.getElem?_toArray, List.getElem?_cons_zero, List.getElem?_cons_succ]; rfl) (by rfl) (by rfl) (fun K hK => ?_); go_big_quiet_op; refine hK _ ?_; clear hK K) | (refine plan_skip (by simp only [List.getElem?_toArray, List.getElem?_cons_zero, List.getElem?_cons_succ]; rfl) (by rfl) ?_; simp only [Act.put, List.setIfInBounds_toArray, List.set_cons_zero, List.set_cons_succ]))
            refine plan_two ?_ ?_
            · skip
              (refine plan_loud (by simp only [List.getElem?_toArray, List.getElem?_cons_zero, List.getElem?_cons_succ]; rfl) (by rfl) (by rfl) (fun K E hK => ?_); go_big_op)
              change Calls _ _ #[_, _, sumV a, sumV x, _, _] _ _
              refine (Leaves_calls (k : Int) (l.length : Int) (by omega) a x hq32 hx _ _ p q hpa hq (by omega) hqn _ (KW.ext (hE.trans (grow_ext y0))) (hP.ext (grow_ext y0)) (hQ0.ext (hE.trans (grow_ext y0)))).mono ?_; rw [HL.out, twC_some]; rintro e w5 ⟨rfl, hd⟩
              obtain ⟨y1, rfl⟩ := more_ext _ hd; clear hd
              refine hK _ _ ⟨_, rfl⟩ ?_; clear hK K E
              iterate 2 (first | (refine plan_quiet (by simp only [List.getElem?_toArray, List.getElem?_cons_zero, List.getElem?_cons_succ]; rfl) (by rfl) (by rfl) (fun K hK => ?_); go_big_quiet_op; refine hK _ ?_; clear hK K) | (refine plan_skip (by simp only [List.getElem?_toArray, List.getElem?_cons_zero, List.getElem?_cons_succ]; rfl) (by rfl) ?_; simp only [Act.put, List.setIfInBounds_toArray, List.set_cons_zero, List.set_cons_succ]))
              refine plan_one ?_
              (refine plan_loud (by simp only [List.getElem?_toArray, List.getElem?_cons_zero, List.getElem?_cons_succ]; rfl) (by rfl) (by rfl) (fun K E hK => ?_); go_big_op)
              obtain ⟨y2, hy2⟩ := more_of ((grow_ext y1).alloc (.cells #[.string (bs []), .string (bs [])] 57))
              have hN := Blk.new (grow v9 y1) 57 #[.string (bs []), .string (bs [])]
              have hgb : v9.heap.size ≤ (grow v9 y1).heap.size := (grow_ext y1).size
              change K _ ((grow v9 y1).alloc (.cells #[.string (bs []), .string (bs [])] 57))
              rw [hy2] at hN ⊢
              generalize (grow v9 y1).heap.size = gN at *
              clear hy2
              refine hK _ _ ⟨_, rfl⟩ ?_; clear hK K E
              have hN0 : (grow v9 y2).cell? ⟨gN, 0, none⟩ = some (.string (bs [])) := Blk.cell hN 0
              have hN1 : (grow v9 y2).cell? ⟨gN, 1, none⟩ = some (.string (bs [])) := Blk.cell hN 1
              have f0 := Blk.frozen hN 0
              have f1 := Blk.frozen hN 1
              have hNl := Blk.lt hN
              refine plan_one ?_
              (refine plan_loud (by simp only [List.getElem?_toArray, List.getElem?_cons_zero, List.getElem?_cons_succ]; rfl) (by rfl) (by rfl) (fun K E hK => ?_); go_big_op)
              obtain ⟨y3, hy3⟩ := more_of (((grow_ext y2).setCell (p := ⟨gN, 0, none⟩) hgb (.string (bs rr))).setCell (p := ⟨gN, 1, none⟩) hgb (.string (bs ss)))
              change K _ (((grow v9 y2).setCell ⟨gN, 0, none⟩ (.string (bs rr))).setCell ⟨gN, 1, none⟩ (.string (bs ss)))
              rw [hy3]
              refine hK _ _ ⟨_, rfl⟩ ?_; clear hK K E
              clear hy3 hN0 hN1 f0 f1 hNl hN
              iterate 2 (first | (refine plan_quiet (by simp only [List.getElem?_toArray, List.getElem?_cons_zero, List.getElem?_cons_succ]; rfl) (by rfl) (by rfl) (fun K hK => ?_); go_big_quiet_op; refine hK _ ?_; clear hK K) | (refine plan_skip (by simp only [List.getElem?_toArray, List.getElem?_cons_zero, List.getElem?_cons_succ]; rfl) (by rfl) ?_; simp only [Act.put, List.setIfInBounds_toArray, List.set_cons_zero, List.set_cons_succ]))
              refine plan_nil ?_
              have eF := grow_ext y3
              generalize grow v9 y3 = w10 at *
              replace hM := Blk.below hM eF (Blk.lt hM)
              replace hE := hE.trans eF
              clear hma hbl2 hmx hml cq1 eF
              have hma : w10.rangeAt b (off + k * 32) (hcells a) := fun i u hu => ((ext_cells hE).1 b _ hbl).trans (hm0 i u hu)
              have hbl2 : b < w10.heap.size := Nat.lt_of_lt_of_le hbl hE.size
              have hmx : w10.rangeAt w.heap.size 0 (hcells x) := cl_mid hM
              go_wp2_with fail
              refine region_keep0 (fun _ => True) (by kernel_rfl) (by kernel_rfl) ?_
              iterate 6 (first | (refine mix_quiet (by rfl) (by rfl) (fun K hK => ?_); go_big_quiet_op; refine hK _ ?_; clear hK K) | (refine mix_skip (by rfl) ?_; simp only [Act.put, List.setIfInBounds_toArray, List.set_cons_zero, List.set_cons_succ]))
              refine held_mid (by rfl) (by rfl) 23 (.tmp 87) rfl w.heap.size 0 (by rfl) (hcells x) _ hmx (Blk.lt hM) trivial Tryd.underlying23 rfl (size32l _ hx) ?_
              simp only [Act.put, List.setIfInBounds_toArray, List.set_cons_zero, List.set_cons_succ]
              iterate 3 (first | (refine mix_quiet (by rfl) (by rfl) (fun K hK => ?_); go_big_quiet_op; refine hK _ ?_; clear hK K) | (refine mix_skip (by rfl) ?_; simp only [Act.put, List.setIfInBounds_toArray, List.set_cons_zero, List.set_cons_succ]))
              refine held_mid (by rfl) (by rfl) 23 (.tmp 91) rfl b (off + k * 32) (by rfl) (hcells a) _ hma hbl2 trivial Tryd.underlying23 rfl (size32l _ hq32) ?_
              simp only [Act.put, List.setIfInBounds_toArray, List.set_cons_zero, List.set_cons_succ]
              unfold hcells
              repeat (first | (refine mix_quiet (by rfl) (by rfl) (fun K hK => ?_); go_big_quiet_op; refine hK _ ?_; clear hK K) | (refine mix_skip (by rfl) ?_; simp only [Act.put, List.setIfInBounds_toArray, List.set_cons_zero, List.set_cons_succ]))
              refine mix_nil ?_
              go_wp2_with fail
              go_ret
              exact ⟨rfl, hE.trans (Ext.refl _).drew⟩
            · skip
              (refine plan_loud (by simp only [List.getElem?_toArray, List.getElem?_cons_zero, List.getElem?_cons_succ]; rfl) (by rfl) (by rfl) (fun K E hK => ?_); go_big_op)
              obtain ⟨y1, hy1⟩ := more_of ((grow_ext y0).alloc (.cells #[.string (bs []), .string (bs [])] 57))
              have hN := Blk.new (grow v9 y0) 57 #[.string (bs []), .string (bs [])]
              have hgb : v9.heap.size ≤ (grow v9 y0).heap.size := (grow_ext y0).size
              change K _ ((grow v9 y0).alloc (.cells #[.string (bs []), .string (bs [])] 57))
              rw [hy1] at hN ⊢
              generalize (grow v9 y0).heap.size = gN at *
              clear hy1
              refine hK _ _ ⟨_, rfl⟩ ?_; clear hK K E
              refine plan_one ?_
              (refine plan_loud (by simp only [List.getElem?_toArray, List.getElem?_cons_zero, List.getElem?_cons_succ]; rfl) (by rfl) (by rfl) (fun K E hK => ?_); go_big_op)
              change Calls _ _ #[_, _, sumV a, sumV x, _, _] _ _
              refine (Leaves_calls (k : Int) (l.length : Int) (by omega) a x hq32 hx _ _ p q hpa hq (by omega) hqn _ (KW.ext (hE.trans (grow_ext y1))) (hP.ext (grow_ext y1)) (hQ0.ext (hE.trans (grow_ext y1)))).mono ?_; rw [HL.out, twC_some]; rintro e w5 ⟨rfl, hd⟩
              replace hN := Blk.below hN hd (Blk.lt hN)
              obtain ⟨y2, rfl⟩ := more_ext _ hd; clear hd
              refine hK _ _ ⟨_, rfl⟩ ?_; clear hK K E
              iterate 2 (first | (refine plan_quiet (by simp only [List.getElem?_toArray, List.getElem?_cons_zero, List.getElem?_cons_succ]; rfl) (by rfl) (by rfl) (fun K hK => ?_); go_big_quiet_op; refine hK _ ?_; clear hK K) | (refine plan_skip (by simp only [List.getElem?_toArray, List.getElem?_cons_zero, List.getElem?_cons_succ]; rfl) (by rfl) ?_; simp only [Act.put, List.setIfInBounds_toArray, List.set_cons_zero, List.set_cons_succ]))
              have hN0 : (grow v9 y2).cell? ⟨gN, 0, none⟩ = some (.string (bs [])) := Blk.cell hN 0
              have hN1 : (grow v9 y2).cell? ⟨gN, 1, none⟩ = some (.string (bs [])) := Blk.cell hN 1
              have f0 := Blk.frozen hN 0
              have f1 := Blk.frozen hN 1
              have hNl := Blk.lt hN
              refine plan_one ?_
              (refine plan_loud (by simp only [List.getElem?_toArray, List.getElem?_cons_zero, List.getElem?_cons_succ]; rfl) (by rfl) (by rfl) (fun K E hK => ?_); go_big_op)
              obtain ⟨y3, hy3⟩ := more_of (((grow_ext y2).setCell (p := ⟨gN, 0, none⟩) hgb (.string (bs rr))).setCell (p := ⟨gN, 1, none⟩) hgb (.string (bs ss)))
              change K _ (((grow v9 y2).setCell ⟨gN, 0, none⟩ (.string (bs rr))).setCell ⟨gN, 1, none⟩ (.string (bs ss)))
              rw [hy3]
              refine hK _ _ ⟨_, rfl⟩ ?_; clear hK K E
              clear hy3 hN0 hN1 f0 f1 hNl hN
              iterate 2 (first | (refine plan_quiet (by simp only [List.getElem?_toArray, List.getElem?_cons_zero, List.getElem?_cons_succ]; rfl) (by rfl) (by rfl) (fun K hK => ?_); go_big_quiet_op; refine hK _ ?_; clear hK K) | (refine plan_skip (by simp only [List.getElem?_toArray, List.getElem?_cons_zero, List.getElem?_cons_succ]; rfl) (by rfl) ?_; simp only [Act.put, List.setIfInBounds_toArray, List.set_cons_zero, List.set_cons_succ]))
              refine plan_nil ?_
              have eF := grow_ext y3
              generalize grow v9 y3 = w10 at *
              replace hM := Blk.below hM eF (Blk.lt hM)
              replace hE := hE.trans eF
              clear hma hbl2 hmx hml cq1 eF
              have hma : w10.rangeAt b (off + k * 32) (hcells a) := fun i u hu => ((ext_cells hE).1 b _ hbl).trans (hm0 i u hu)
              have hbl2 : b < w10.heap.size := Nat.lt_of_lt_of_le hbl hE.size
              have hmx : w10.rangeAt w.heap.size 0 (hcells x) := cl_mid hM
              go_wp2_with fail
              refine region_keep0 (fun _ => True) (by kernel_rfl) (by kernel_rfl) ?_
              iterate 6 (first | (refine mix_quiet (by rfl) (by rfl) (fun K hK => ?_); go_big_quiet_op; refine hK _ ?_; clear hK K) | (refine mix_skip (by rfl) ?_; simp only [Act.put, List.setIfInBounds_toArray, List.set_cons_zero, List.set_cons_succ]))
              refine held_mid (by rfl) (by rfl) 23 (.tmp 87) rfl w.heap.size 0 (by rfl) (hcells x) _ hmx (Blk.lt hM) trivial Tryd.underlying23 rfl (size32l _ hx) ?_
              simp only [Act.put, List.setIfInBounds_toArray, List.set_cons_zero, List.set_cons_succ]
              iterate 3 (first | (refine mix_quiet (by rfl) (by rfl) (fun K hK => ?_); go_big_quiet_op; refine hK _ ?_; clear hK K) | (refine mix_skip (by rfl) ?_; simp only [Act.put, List.setIfInBounds_toArray, List.set_cons_zero, List.set_cons_succ]))
              refine held_mid (by rfl) (by rfl) 23 (.tmp 91) rfl b (off + k * 32) (by rfl) (hcells a) _ hma hbl2 trivial Tryd.underlying23 rfl (size32l _ hq32) ?_
              simp only [Act.put, List.setIfInBounds_toArray, List.set_cons_zero, List.set_cons_succ]
              unfold hcells
              repeat (first | (refine mix_quiet (by rfl) (by rfl) (fun K hK => ?_); go_big_quiet_op; refine hK _ ?_; clear hK K) | (refine mix_skip (by rfl) ?_; simp only [Act.put, List.setIfInBounds_toArray, List.set_cons_zero, List.set_cons_succ]))
              refine mix_nil ?_
              go_wp2_with fail
              go_ret
              exact ⟨rfl, hE.trans (Ext.refl _).drew⟩
        · have HPQ : Hid (decide (p = q) = false) := Lib.hid (decide_eq_false hpq)
          obtain ⟨rr, ss, hrs⟩ := hLT.2 (fun h => hpq h.2)
          have HL := Lib.hid hrs
          clear hpq hLT hrs heqx
          go_wp2_with fail
          refine (Same_calls _ _ p q hpa hq _ hP (hQ0.ext hE)).mono ?_; rw [HPQ.out]; rintro e v9 ⟨rfl, e8⟩
          replace hM := Blk.below hM e8 (Blk.lt hM)
          replace hP := hP.ext e8
          replace hY := Blk.below hY e8 (Blk.lt hY)
          replace hE := hE.trans e8
          replace cq1 : v9.cell? ⟨w.heap.size, 32, none⟩ = some (.slice Pq q.length kq) := cl_cell hx hM
          replace hmx : v9.rangeAt w.heap.size 0 (hcells x) := cl_mid hM
          replace hml := Blk.lt hM
          replace hma : v9.rangeAt b (off + k * 32) (hcells a) := fun i u hu => ((ext_cells hE).1 b _ hbl).trans (hm0 i u hu)
          replace hbl2 : b < v9.heap.size := Nat.lt_of_lt_of_le hbl hE.size
          clear e8
          go_wp2_with fail
          refine region_plan 19 (Plan.run [0, 1, 2, 3, 4, 5, 6, 7, 8, 9, 10, 11] (.two 12 16 (Plan.run [13, 14, 16, 17, 15, 18] .nil) (Plan.run [12, 13, 14, 17, 15, 18] .nil))) (by kernel_rfl) (by kernel_rfl) (fun y0 => ?_); simp only [Plan.run, List.drop_succ_cons, List.drop_zero, List.drop_nil]
          iterate 6 (first | (refine plan_quiet (by simp only [List.getElem?_toArray, List.getElem?_cons_zero, List.getElem?_cons_succ]; rfl) (by rfl) (by rfl) (fun K hK => ?_); go_big_quiet_op; refine hK _ ?_; clear hK K) | (refine plan_skip (by simp only [List.getElem?_toArray, List.getElem?_cons_zero, List.getElem?_cons_succ]; rfl) (by rfl) ?_; simp only [Act.put, List.setIfInBounds_toArray, List.set_cons_zero, List.set_cons_succ]))
          refine plan_mid (by simp only [List.getElem?_toArray, List.getElem?_cons_zero, List.getElem?_cons_succ]; rfl) (by rfl) (by rfl) 23 (.tmp 72) rfl b (off + k * 32) (by rfl) _ _ hma hbl2 Tryd.underlying23 rfl (size32l _ hq32) ?_
          simp only [Act.put, List.setIfInBounds_toArray, List.set_cons_zero, List.set_cons_succ]
          iterate 1 (first | (refine plan_quiet (by simp only [List.getElem?_toArray, List.getElem?_cons_zero, List.getElem?_cons_succ]; rfl) (by rfl) (by rfl) (fun K hK => ?_); go_big_quiet_op; refine hK _ ?_; clear hK K) | (refine plan_skip (by simp only [List.getElem?_toArray, List.getElem?_cons_zero, List.getElem?_cons_succ]; rfl) (by rfl) ?_; simp only [Act.put, List.setIfInBounds_toArray, List.set_cons_zero, List.set_cons_succ]))
          refine plan_mid (by simp only [List.getElem?_toArray, List.getElem?_cons_zero, List.getElem?_cons_succ]; rfl) (by rfl) (by rfl) 23 (.tmp 74) rfl w.heap.size 0 (by rfl) _ _ hmx hml Tryd.underlying23 rfl (size32l _ hx) ?_
          simp only [Act.put, List.setIfInBounds_toArray, List.set_cons_zero, List.set_cons_succ]
          unfold hcells
          iterate 3 (first | (refine plan_quiet (by simp only [List.getElem?_toArray, List.getElem?_cons_zero, List.getElem?_cons_succ]; rfl) (by rfl) (by rfl) (fun K hK => ?_); go_big_quiet_op; refine hK _ ?_; clear hK K) | (refine plan_skip (by simp only [List.getElem?_toArray, List.getElem?_cons_zero, List.getElem?_cons_succ]; rfl) (by rfl) ?_; simp only [Act.put, List.setIfInBounds_toArray, List.set_cons_zero, List.set_cons_succ]))
          refine plan_two ?_ ?_
          · skip
            (refine plan_loud (by simp only [List.getElem?_toArray, List.getElem?_cons_zero, List.getElem?_cons_succ]; rfl) (by rfl) (by rfl) (fun K E hK => ?_); go_big_op)
            change Calls _ _ #[_, _, sumV a, sumV x, _, _] _ _
            refine (Leaves_calls (k : Int) (l.length : Int) (by omega) a x hq32 hx _ _ p q hpa hq (by omega) hqn _ (KW.ext (hE.trans (grow_ext y0))) (hP.ext (grow_ext y0)) (hQ0.ext (hE.trans (grow_ext y0)))).mono ?_; rw [HL.out, twC_some]; rintro e w5 ⟨rfl, hd⟩
            obtain ⟨y1, rfl⟩ := more_ext _ hd; clear hd
            refine hK _ _ ⟨_, rfl⟩ ?_; clear hK K E
            iterate 2 (first | (refine plan_quiet (by simp only [List.getElem?_toArray, List.getElem?_cons_zero, List.getElem?_cons_succ]; rfl) (by rfl) (by rfl) (fun K hK => ?_); go_big_quiet_op; refine hK _ ?_; clear hK K) | (refine plan_skip (by simp only [List.getElem?_toArray, List.getElem?_cons_zero, List.getElem?_cons_succ]; rfl) (by rfl) ?_; simp only [Act.put, List.setIfInBounds_toArray, List.set_cons_zero, List.set_cons_succ]))
            refine plan_one ?_
            (refine plan_loud (by simp only [List.getElem?_toArray, List.getElem?_cons_zero, List.getElem?_cons_succ]; rfl) (by rfl) (by rfl) (fun K E hK => ?_); go_big_op)
            obtain ⟨y2, hy2⟩ := more_of ((grow_ext y1).alloc (.cells #[.string (bs []), .string (bs [])] 57))
            have hN := Blk.new (grow v9 y1) 57 #[.string (bs []), .string (bs [])]
            have hgb : v9.heap.size ≤ (grow v9 y1).heap.size := (grow_ext y1).size
            change K _ ((grow v9 y1).alloc (.cells #[.string (bs []), .string (bs [])] 57))
            rw [hy2] at hN ⊢
            generalize (grow v9 y1).heap.size = gN at *
            clear hy2
            refine hK _ _ ⟨_, rfl⟩ ?_; clear hK K E
            have hN0 : (grow v9 y2).cell? ⟨gN, 0, none⟩ = some (.string (bs [])) := Blk.cell hN 0
            have hN1 : (grow v9 y2).cell? ⟨gN, 1, none⟩ = some (.string (bs [])) := Blk.cell hN 1
            have f0 := Blk.frozen hN 0
            have f1 := Blk.frozen hN 1
            have hNl := Blk.lt hN
            refine plan_one ?_
            (refine plan_loud (by simp only [List.getElem?_toArray, List.getElem?_cons_zero, List.getElem?_cons_succ]; rfl) (by rfl) (by rfl) (fun K E hK => ?_); go_big_op)
            obtain ⟨y3, hy3⟩ := more_of (((grow_ext y2).setCell (p := ⟨gN, 0, none⟩) hgb (.string (bs rr))).setCell (p := ⟨gN, 1, none⟩) hgb (.string (bs ss)))
            change K _ (((grow v9 y2).setCell ⟨gN, 0, none⟩ (.string (bs rr))).setCell ⟨gN, 1, none⟩ (.string (bs ss)))
            rw [hy3]
            refine hK _ _ ⟨_, rfl⟩ ?_; clear hK K E
            clear hy3 hN0 hN1 f0 f1 hNl hN
            iterate 2 (first | (refine plan_quiet (by simp only [List.getElem?_toArray, List.getElem?_cons_zero, List.getElem?_cons_succ]; rfl) (by rfl) (by rfl) (fun K hK => ?_); go_big_quiet_op; refine hK _ ?_; clear hK K) | (refine plan_skip (by simp only [List.getElem?_toArray, List.getElem?_cons_zero, List.getElem?_cons_succ]; rfl) (by rfl) ?_; simp only [Act.put, List.setIfInBounds_toArray, List.set_cons_zero, List.set_cons_succ]))
            refine plan_nil ?_
            have eF := grow_ext y3
            generalize grow v9 y3 = w10 at *
            replace hM := Blk.below hM eF (Blk.lt hM)
            replace hE := hE.trans eF
            clear hma hbl2 hmx hml cq1 eF
            have hma : w10.rangeAt b (off + k * 32) (hcells a) := fun i u hu => ((ext_cells hE).1 b _ hbl).trans (hm0 i u hu)
            have hbl2 : b < w10.heap.size := Nat.lt_of_lt_of_le hbl hE.size
            have hmx : w10.rangeAt w.heap.size 0 (hcells x) := cl_mid hM
            go_wp2_with fail
            refine region_keep0 (fun _ => True) (by kernel_rfl) (by kernel_rfl) ?_
            repeat (first | (refine mix_quiet (by rfl) (by rfl) (fun K hK => ?_); go_big_quiet_op; refine hK _ ?_; clear hK K) | (refine mix_skip (by rfl) ?_; simp only [Act.put, List.setIfInBounds_toArray, List.set_cons_zero, List.set_cons_succ]))
            refine mix_nil ?_
            go_wp2_with fail
            go_ret
            exact ⟨rfl, hE.trans (Ext.refl _).drew⟩
          · skip
            (refine plan_loud (by simp only [List.getElem?_toArray, List.getElem?_cons_zero, List.getElem?_cons_succ]; rfl) (by rfl) (by rfl) (fun K E hK => ?_); go_big_op)
            obtain ⟨y1, hy1⟩ := more_of ((grow_ext y0).alloc (.cells #[.string (bs []), .string (bs [])] 57))
            have hN := Blk.new (grow v9 y0) 57 #[.string (bs []), .string (bs [])]
            have hgb : v9.heap.size ≤ (grow v9 y0).heap.size := (grow_ext y0).size
            change K _ ((grow v9 y0).alloc (.cells #[.string (bs []), .string (bs [])] 57))
            rw [hy1] at hN ⊢
            generalize (grow v9 y0).heap.size = gN at *
            clear hy1
            refine hK _ _ ⟨_, rfl⟩ ?_; clear hK K E
            refine plan_one ?_
            (refine plan_loud (by simp only [List.getElem?_toArray, List.getElem?_cons_zero, List.getElem?_cons_succ]; rfl) (by rfl) (by rfl) (fun K E hK => ?_); go_big_op)
            change Calls _ _ #[_, _, sumV a, sumV x, _, _] _ _
            refine (Leaves_calls (k : Int) (l.length : Int) (by omega) a x hq32 hx _ _ p q hpa hq (by omega) hqn _ (KW.ext (hE.trans (grow_ext y1))) (hP.ext (grow_ext y1)) (hQ0.ext (hE.trans (grow_ext y1)))).mono ?_; rw [HL.out, twC_some]; rintro e w5 ⟨rfl, hd⟩
            replace hN := Blk.below hN hd (Blk.lt hN)
            obtain ⟨y2, rfl⟩ := more_ext _ hd; clear hd
            refine hK _ _ ⟨_, rfl⟩ ?_; clear hK K E
            iterate 2 (first | (refine plan_quiet (by simp only [List.getElem?_toArray, List.getElem?_cons_zero, List.getElem?_cons_succ]; rfl) (by rfl) (by rfl) (fun K hK => ?_); go_big_quiet_op; refine hK _ ?_; clear hK K) | (refine plan_skip (by simp only [List.getElem?_toArray, List.getElem?_cons_zero, List.getElem?_cons_succ]; rfl) (by rfl) ?_; simp only [Act.put, List.setIfInBounds_toArray, List.set_cons_zero, List.set_cons_succ]))
            have hN0 : (grow v9 y2).cell? ⟨gN, 0, none⟩ = some (.string (bs [])) := Blk.cell hN 0
            have hN1 : (grow v9 y2).cell? ⟨gN, 1, none⟩ = some (.string (bs [])) := Blk.cell hN 1
            have f0 := Blk.frozen hN 0
            have f1 := Blk.frozen hN 1
            have hNl := Blk.lt hN
            refine plan_one ?_
            (refine plan_loud (by simp only [List.getElem?_toArray, List.getElem?_cons_zero, List.getElem?_cons_succ]; rfl) (by rfl) (by rfl) (fun K E hK => ?_); go_big_op)
            obtain ⟨y3, hy3⟩ := more_of (((grow_ext y2).setCell (p := ⟨gN, 0, none⟩) hgb (.string (bs rr))).setCell (p := ⟨gN, 1, none⟩) hgb (.string (bs ss)))
            change K _ (((grow v9 y2).setCell ⟨gN, 0, none⟩ (.string (bs rr))).setCell ⟨gN, 1, none⟩ (.string (bs ss)))
            rw [hy3]
            refine hK _ _ ⟨_, rfl⟩ ?_; clear hK K E
            clear hy3 hN0 hN1 f0 f1 hNl hN
            iterate 2 (first | (refine plan_quiet (by simp only [List.getElem?_toArray, List.getElem?_cons_zero, List.getElem?_cons_succ]; rfl) (by rfl) (by rfl) (fun K hK => ?_); go_big_quiet_op; refine hK _ ?_; clear hK K) | (refine plan_skip (by simp only [List.getElem?_toArray, List.getElem?_cons_zero, List.getElem?_cons_succ]; rfl) (by rfl) ?_; simp only [Act.put, List.setIfInBounds_toArray, List.set_cons_zero, List.set_cons_succ]))
            refine plan_nil ?_
            have eF := grow_ext y3
            generalize grow v9 y3 = w10 at *
            replace hM := Blk.below hM eF (Blk.lt hM)
            replace hE := hE.trans eF
            clear hma hbl2 hmx hml cq1 eF
            have hma : w10.rangeAt b (off + k * 32) (hcells a) := fun i u hu => ((ext_cells hE).1 b _ hbl).trans (hm0 i u hu)
            have hbl2 : b < w10.heap.size := Nat.lt_of_lt_of_le hbl hE.size
            have hmx : w10.rangeAt w.heap.size 0 (hcells x) := cl_mid hM
            go_wp2_with fail
            refine region_keep0 (fun _ => True) (by kernel_rfl) (by kernel_rfl) ?_
            repeat (first | (refine mix_quiet (by rfl) (by rfl) (fun K hK => ?_); go_big_quiet_op; refine hK _ ?_; clear hK K) | (refine mix_skip (by rfl) ?_; simp only [Act.put, List.setIfInBounds_toArray, List.set_cons_zero, List.set_cons_succ]))
            refine mix_nil ?_
            go_wp2_with fail
            go_ret
            exact ⟨rfl, hE.trans (Ext.refl _).drew⟩
      · have dz : decide (y = z) = false := decide_eq_false hyz
        rw [dz] at heqz
        clear dz hyz
        refine region_keep0 (fun _ => True) (by kernel_rfl) (by kernel_rfl) ?_
        have K0 : Ext v5 v5.drew := (Ext.refl v5).drew
        iterate 3 (first | (refine mix_quiet (by rfl) (by rfl) (fun K hK => ?_); go_big_quiet_op; refine hK _ ?_; clear hK K) | (refine mix_skip (by rfl) ?_; simp only [Act.put, List.setIfInBounds_toArray, List.set_cons_zero, List.set_cons_succ]))
        refine held_row (by rfl) (by rfl) 23 (.tmp 12) rfl g7 (by rfl) 23 _ _ hY trivial Tryd.underlying23 rfl (size32.trans (by simp [hy])) ?_
        simp only [Act.put, List.setIfInBounds_toArray, List.set_cons_zero, List.set_cons_succ]
        iterate 1 (first | (refine mix_quiet (by rfl) (by rfl) (fun K hK => ?_); go_big_quiet_op; refine hK _ ?_; clear hK K) | (refine mix_skip (by rfl) ?_; simp only [Act.put, List.setIfInBounds_toArray, List.set_cons_zero, List.set_cons_succ]))
        (refine mix_loud (by rfl) (by rfl) (fun K E hK => ?_); go_big_op)
        refine (refRoot_calls _ l hf _ (hS8 _ (hE.trans K0))).mono ?_; rw [← Hz.out]; rintro e u1 ⟨rfl, K1⟩
        have K1 := K0.trans K1
        refine hK _ _ (held_of (Keep.of_ext K1)) ?_; clear hK K E
        unfold sumV
        repeat (first | (refine mix_quiet (by rfl) (by rfl) (fun K hK => ?_); go_big_quiet_op; refine hK _ ?_; clear hK K) | (refine mix_skip (by rfl) ?_; simp only [Act.put, List.setIfInBounds_toArray, List.set_cons_zero, List.set_cons_succ]))
        refine mix_nil ?_
        go_wp2_with fail
        go_ret
        exact ⟨rfl, hE.trans K1⟩
    · obtain ⟨k, rfl⟩ : ∃ k : Nat, r = (k : Int) := ⟨r.toNat, by omega⟩
      have hkm : k < l.length := by omega
      have hkI : (k : Int) < (l.length : Int) := by omega
      have hneg2 : ¬ (k : Int) < 0 := by omega
      go_wp2_with fail
      clear hr' hr0 hr1
      have hpf := path_fold l k hkm (by omega)
      have hq32 : l[k].length = 32 := hf _ (List.getElem_mem hkm)
      have hpl := pathS_le l k
      have hpa := path_all _ l k rfl hf
      have hSw := hS8 w (Ext.refl w)
      obtain ⟨A', cap', hv', -, -, -, hrw⟩ := hSw
      injection hv' with v1 v2 v3
      subst v1
      obtain ⟨b', off', hbo, hbl, hm0⟩ := rds_mid hrw hf (k := k) hkm
      injection hbo with hbo
      injection hbo with b1 b2 b3
      subst b1 b2
      clear v2 v3 b3 hrw
      generalize l[k] = a at *
      obtain ⟨p, hp⟩ : ∃ p, p = pathS l k := ⟨_, rfl⟩
      have Hp := Lib.hid hp
      rw [← hp] at hpf hpl hpa
      clear hp
      refine (refPath_calls _ l k (by omega) hkm hf _ (hS8 _ hE)).mono ?_; rw [← Hp.out]; rintro e w3 ⟨v3, rfl, hP, e3⟩
      obtain ⟨Ap, cp, hv3, _⟩ := id hP
      subst hv3
      replace hM := Blk.below hM e3 (Blk.lt hM)
      replace hE := hE.trans e3
      replace cq1 : w3.cell? ⟨w.heap.size, 32, none⟩ = some (.slice Pq q.length kq) := cl_cell hx hM
      replace hmx : w3.rangeAt w.heap.size 0 (hcells x) := cl_mid hM
      replace hml := Blk.lt hM
      clear e3
      have hma : w3.rangeAt b (off + k * 32) (hcells a) := fun i u hu => ((ext_cells hE).1 b _ hbl).trans (hm0 i u hu)
      have hbl2 : b < w3.heap.size := Nat.lt_of_lt_of_le hbl hE.size
      have hpx := foldP_length x hx (k : Int) (l.length : Int) q
      obtain ⟨P, hP1⟩ : ∃ P, P = foldP x (k : Int) (l.length : Int) q := ⟨_, rfl⟩
      rw [← hP1] at hpx
      obtain ⟨y, is⟩ := P
      have hy : y.length = 32 := hpx
      have HP1 := Lib.hid hP1
      have HPF := Lib.hid hpf
      clear hpx hP1 hpf
      go_wp2_with (refine stop_load 23 (.tmp 43) rfl ?_)
      refine ⟨?_⟩
      refine wpList_load_mid rfl 23 (.tmp 43) rfl w.heap.size (0) (by rfl) (hcells x) _ hmx Tryd.underlying23 rfl (size32l _ hx) ?_
      simp only [Act.put, List.setIfInBounds_toArray, List.set_cons_zero, List.set_cons_succ]
      unfold hcells
      go_wp2_with fail
      change Calls _ _ #[sumV x, _, _, _] _ _
      refine (refFold_any x hx (k : Int) (l.length : Int) (by omega) _ q hq _ (hQ0.ext hE)).mono ?_; rw [← HP1.out]; rintro e v4 ⟨rfl, e3⟩
      replace hM := Blk.below hM e3 (Blk.lt hM)
      replace hP := hP.ext e3
      replace hE := hE.trans e3
      replace cq1 : v4.cell? ⟨w.heap.size, 32, none⟩ = some (.slice Pq q.length kq) := cl_cell hx hM
      replace hmx : v4.rangeAt w.heap.size 0 (hcells x) := cl_mid hM
      replace hml := Blk.lt hM
      replace hma : v4.rangeAt b (off + k * 32) (hcells a) := fun i u hu => ((ext_cells hE).1 b _ hbl).trans (hm0 i u hu)
      replace hbl2 : b < v4.heap.size := Nat.lt_of_lt_of_le hbl hE.size
      clear e3
      try unfold sumV
      go_wp2_with (refine stop_store 23 (.tmp 12) (.tmp 51) rfl ?_)
      refine ⟨?_⟩
      change wpList _ _ _ _ _ (v4.alloc (.cells ((zerosB 32).map byteV).toArray 23))
      have hY0 : ArrB (v4.alloc (.cells ((zerosB 32).map byteV).toArray 23)) v4.heap.size 23 (zerosB 32) := Blk.new _ _ _
      refine wpList_store_row rfl 23 (.tmp 12) (.tmp 51) rfl v4.heap.size ((y).map byteV).toArray (by rfl) (by rfl) 23 _ hY0 (size32.trans (by simp [hy])) (by simp [hy, zerosB]) (by simp [byteV, Value.oneCell']) ?_
      simp only [Act.put, List.setIfInBounds_toArray, List.set_cons_zero, List.set_cons_succ]
      have hY : ArrB ((v4.alloc (.cells ((zerosB 32).map byteV).toArray 23)).setRow v4.heap.size ((y).map byteV).toArray) v4.heap.size 23 (y) := Blk.row hY0 _
      have e6 : Ext v4 ((v4.alloc (.cells ((zerosB 32).map byteV).toArray 23)).setRow v4.heap.size ((y).map byteV).toArray) := ((Ext.refl v4).alloc _).row (Nat.le_refl _) _
      clear hY0
      generalize (v4.alloc (.cells ((zerosB 32).map byteV).toArray 23)).setRow v4.heap.size ((y).map byteV).toArray = v5 at *
      have g7l := Blk.lt hY
      obtain ⟨g7, g7e⟩ : ∃ g7, g7 = v4.heap.size := ⟨_, rfl⟩
      rw [← g7e] at hY g7l
      try rw [← g7e]
      have g7b : v4.heap.size ≤ g7 := by omega
      replace hM := Blk.below hM e6 (Blk.lt hM)
      replace hP := hP.ext e6
      replace hE := hE.trans e6
      replace cq1 : v5.cell? ⟨w.heap.size, 32, none⟩ = some (.slice Pq q.length kq) := cl_cell hx hM
      replace hmx : v5.rangeAt w.heap.size 0 (hcells x) := cl_mid hM
      replace hml := Blk.lt hM
      replace hma : v5.rangeAt b (off + k * 32) (hcells a) := fun i u hu => ((ext_cells hE).1 b _ hbl).trans (hm0 i u hu)
      replace hbl2 : b < v5.heap.size := Nat.lt_of_lt_of_le hbl hE.size
      clear e6
      clear g7e
      go_wp2_with fail
      cases is
      · skip
        refine region_keep0 (fun _ => True) (by kernel_rfl) (by kernel_rfl) ?_
        repeat (first | (refine mix_quiet (by rfl) (by rfl) (fun K hK => ?_); go_big_quiet_op; refine hK _ ?_; clear hK K) | (refine mix_skip (by rfl) ?_; simp only [Act.put, List.setIfInBounds_toArray, List.set_cons_zero, List.set_cons_succ]))
        refine mix_nil ?_
        go_wp2_with fail
        go_ret
        exact ⟨rfl, hE.trans (Ext.refl _).drew⟩
      have hrl := rootS_length l hf
      obtain ⟨z, hz⟩ : ∃ z, z = rootS l := ⟨_, rfl⟩
      rw [← hz] at hrl HPF
      have Hz := Lib.hid hz
      clear hz
      have heqz := fun w : World => eq_sum y z hy hrl w
      have hqn := fold_len x (k : Int) (l.length : Int) q (by omega) (by rw [← HP1.out])
      by_cases hyz : y = z
      · have dz : decide (y = z) = true := decide_eq_true hyz
        subst hyz
        rw [dz] at heqz
        clear dz
        have hLT := leaves_tell (k : Int) (l.length : Int) a x y p q hq32 hx hpa hq HPF.out HP1.out.symm
        refine region_keep0 (fun _ => True) (by kernel_rfl) (by kernel_rfl) ?_
        have K0 : Ext v5 v5.drew := (Ext.refl v5).drew
        iterate 3 (first | (refine mix_quiet (by rfl) (by rfl) (fun K hK => ?_); go_big_quiet_op; refine hK _ ?_; clear hK K) | (refine mix_skip (by rfl) ?_; simp only [Act.put, List.setIfInBounds_toArray, List.set_cons_zero, List.set_cons_succ]))
        refine held_row (by rfl) (by rfl) 23 (.tmp 12) rfl g7 (by rfl) 23 _ _ hY trivial Tryd.underlying23 rfl (size32.trans (by simp [hy])) ?_
        simp only [Act.put, List.setIfInBounds_toArray, List.set_cons_zero, List.set_cons_succ]
        iterate 1 (first | (refine mix_quiet (by rfl) (by rfl) (fun K hK => ?_); go_big_quiet_op; refine hK _ ?_; clear hK K) | (refine mix_skip (by rfl) ?_; simp only [Act.put, List.setIfInBounds_toArray, List.set_cons_zero, List.set_cons_succ]))
        (refine mix_loud (by rfl) (by rfl) (fun K E hK => ?_); go_big_op)
        refine (refRoot_calls _ l hf _ (hS8 _ (hE.trans K0))).mono ?_; rw [← Hz.out]; rintro e u1 ⟨rfl, K1⟩
        have K1 := K0.trans K1
        refine hK _ _ (held_of (Keep.of_ext K1)) ?_; clear hK K E
        unfold sumV
        repeat (first | (refine mix_quiet (by rfl) (by rfl) (fun K hK => ?_); go_big_quiet_op; refine hK _ ?_; clear hK K) | (refine mix_skip (by rfl) ?_; simp only [Act.put, List.setIfInBounds_toArray, List.set_cons_zero, List.set_cons_succ]))
        refine mix_nil ?_
        clear K0
        replace hM := Blk.below hM K1 (Blk.lt hM)
        replace hP := hP.ext K1
        replace hY := Blk.below hY K1 (Blk.lt hY)
        replace hE := hE.trans K1
        replace cq1 : u1.cell? ⟨w.heap.size, 32, none⟩ = some (.slice Pq q.length kq) := cl_cell hx hM
        replace hmx : u1.rangeAt w.heap.size 0 (hcells x) := cl_mid hM
        replace hml := Blk.lt hM
        replace hma : u1.rangeAt b (off + k * 32) (hcells a) := fun i u hu => ((ext_cells hE).1 b _ hbl).trans (hm0 i u hu)
        replace hbl2 : b < u1.heap.size := Nat.lt_of_lt_of_le hbl hE.size
        clear K1
        have heqx := fun w : World => eq_sum x a hx hq32 w
        by_cases hpq : p = q
        · have HPQ : Hid (decide (p = q) = true) := Lib.hid (decide_eq_true hpq)
          by_cases hax : a = x
          · have HL := Lib.hid (hLT.1 ⟨hax, hpq⟩)
            have dx : decide (x = a) = true := decide_eq_true hax.symm
            rw [dx] at heqx
            clear dx hax hpq hLT
            go_wp2_with fail
            refine (Same_calls _ _ p q hpa hq _ hP (hQ0.ext hE)).mono ?_; rw [HPQ.out]; rintro e v9 ⟨rfl, e8⟩
            replace hM := Blk.below hM e8 (Blk.lt hM)
            replace hP := hP.ext e8
            replace hY := Blk.below hY e8 (Blk.lt hY)
            replace hE := hE.trans e8
            replace cq1 : v9.cell? ⟨w.heap.size, 32, none⟩ = some (.slice Pq q.length kq) := cl_cell hx hM
            replace hmx : v9.rangeAt w.heap.size 0 (hcells x) := cl_mid hM
            replace hml := Blk.lt hM
            replace hma : v9.rangeAt b (off + k * 32) (hcells a) := fun i u hu => ((ext_cells hE).1 b _ hbl).trans (hm0 i u hu)
            replace hbl2 : b < v9.heap.size := Nat.lt_of_lt_of_le hbl hE.size
            clear e8
            go_wp2_with fail
            refine region_plan 19 (Plan.run [0, 1, 2, 3, 4, 5, 6, 7, 8, 9, 10, 11] (.two 12 16 (Plan.run [13, 14, 16, 17, 15, 18] .nil) (Plan.run [12, 13, 14, 17, 15, 18] .nil))) (by kernel_rfl) (by kernel_rfl) (fun y0 => ?_); simp only [Plan.run, List.drop_succ_cons, List.drop_zero, List.drop_nil]
            iterate 6 (first | (refine plan_quiet (by simp only [List.getElem?_toArray, List.getElem?_cons_zero, List.getElem?_cons_succ]; rfl) (by rfl) (by rfl) (fun K hK => ?_); go_big_quiet_op; refine hK _ ?_; clear hK K) | (refine plan_skip (by simp only [List.getElem?_toArray, List.getElem?_cons_zero, List.getElem?_cons_succ]; rfl) (by rfl) ?_; simp only [Act.put, List.setIfInBounds_toArray, List.set_cons_zero, List.set_cons_succ]))
            refine plan_mid (by simp only [List.getElem?_toArray, List.getElem?_cons_zero, List.getElem?_cons_succ]; rfl) (by rfl) (by rfl) 23 (.tmp 72) rfl b (off + k * 32) (by rfl) _ _ hma hbl2 Tryd.underlying23 rfl (size32l _ hq32) ?_
            simp only [Act.put, List.setIfInBounds_toArray, List.set_cons_zero, List.set_cons_succ]
            iterate 1 (first | (refine plan_quiet (by simp only [List.getElem?_toArray, List.getElem?_cons_zero, List.getElem?_cons_succ]; rfl) (by rfl) (by rfl) (fun K hK => ?_); go_big_quiet_op; refine hK _ ?_; clear hK K) | (refine plan_skip (by simp only [List.getElem?_toArray, List.getElem?_cons_zero, List.getElem?_cons_succ]; rfl) (by rfl) ?_; simp only [Act.put, List.setIfInBounds_toArray, List.set_cons_zero, List.set_cons_succ]))
            refine plan_mid (by simp only [List.getElem?_toArray, List.getElem?_cons_zero, List.getElem?_cons_succ]; rfl) (by rfl) (by rfl) 23 (.tmp 74) rfl w.heap.size 0 (by rfl) _ _ hmx hml Tryd.underlying23 rfl (size32l _ hx) ?_
            simp only [Act.put, List.setIfInBounds_toArray, List.set_cons_zero, List.set_cons_succ]
            unfold hcells
            iterate 3 (first | (refine plan_quiet (by simp only [List.getElem?_toArray, List.getElem?_cons_zero, List.getElem?_cons_succ]; rfl) (by rfl) (by rfl) (fun K hK => ?_); go_big_quiet_op; refine hK _ ?_; clear hK K) | (refine plan_skip (by simp only [List.getElem?_toArray, List.getElem?_cons_zero, List.getElem?_cons_succ]; rfl) (by rfl) ?_; simp only [Act.put, List.setIfInBounds_toArray, List.set_cons_zero, List.set_cons_succ]))
            refine plan_two ?_ ?_
            · skip
              (refine plan_loud (by simp only [List.getElem?_toArray, List.getElem?_cons_zero, List.getElem?_cons_succ]; rfl) (by rfl) (by rfl) (fun K E hK => ?_); go_big_op)
              change Calls _ _ #[_, _, sumV a, sumV x, _, _] _ _
              refine (Leaves_calls (k : Int) (l.length : Int) (by omega) a x hq32 hx _ _ p q hpa hq (by omega) hqn _ (KW.ext (hE.trans (grow_ext y0))) (hP.ext (grow_ext y0)) (hQ0.ext (hE.trans (grow_ext y0)))).mono ?_; rw [HL.out, twC_none]; rintro e w5 ⟨rfl, hd⟩
              obtain ⟨y1, rfl⟩ := more_ext _ hd; clear hd
              refine hK _ _ ⟨_, rfl⟩ ?_; clear hK K E
              iterate 2 (first | (refine plan_quiet (by simp only [List.getElem?_toArray, List.getElem?_cons_zero, List.getElem?_cons_succ]; rfl) (by rfl) (by rfl) (fun K hK => ?_); go_big_quiet_op; refine hK _ ?_; clear hK K) | (refine plan_skip (by simp only [List.getElem?_toArray, List.getElem?_cons_zero, List.getElem?_cons_succ]; rfl) (by rfl) ?_; simp only [Act.put, List.setIfInBounds_toArray, List.set_cons_zero, List.set_cons_succ]))
              refine plan_one ?_
              (refine plan_loud (by simp only [List.getElem?_toArray, List.getElem?_cons_zero, List.getElem?_cons_succ]; rfl) (by rfl) (by rfl) (fun K E hK => ?_); go_big_op)
              obtain ⟨y2, hy2⟩ := more_of ((grow_ext y1).alloc (.cells #[.string (bs []), .string (bs [])] 57))
              have hN := Blk.new (grow v9 y1) 57 #[.string (bs []), .string (bs [])]
              have hgb : v9.heap.size ≤ (grow v9 y1).heap.size := (grow_ext y1).size
              change K _ ((grow v9 y1).alloc (.cells #[.string (bs []), .string (bs [])] 57))
              rw [hy2] at hN ⊢
              generalize (grow v9 y1).heap.size = gN at *
              clear hy2
              refine hK _ _ ⟨_, rfl⟩ ?_; clear hK K E
              have hN0 : (grow v9 y2).cell? ⟨gN, 0, none⟩ = some (.string (bs [])) := Blk.cell hN 0
              have hN1 : (grow v9 y2).cell? ⟨gN, 1, none⟩ = some (.string (bs [])) := Blk.cell hN 1
              have f0 := Blk.frozen hN 0
              have f1 := Blk.frozen hN 1
              have hNl := Blk.lt hN
              refine plan_one ?_
              (refine plan_loud (by simp only [List.getElem?_toArray, List.getElem?_cons_zero, List.getElem?_cons_succ]; rfl) (by rfl) (by rfl) (fun K E hK => ?_); go_big_op)
              obtain ⟨y3, hy3⟩ := more_of (((grow_ext y2).setCell (p := ⟨gN, 0, none⟩) hgb (.string (bs []))).setCell (p := ⟨gN, 1, none⟩) hgb (.string (bs [])))
              change K _ (((grow v9 y2).setCell ⟨gN, 0, none⟩ (.string (bs []))).setCell ⟨gN, 1, none⟩ (.string (bs [])))
              rw [hy3]
              refine hK _ _ ⟨_, rfl⟩ ?_; clear hK K E
              clear hy3 hN0 hN1 f0 f1 hNl hN
              iterate 2 (first | (refine plan_quiet (by simp only [List.getElem?_toArray, List.getElem?_cons_zero, List.getElem?_cons_succ]; rfl) (by rfl) (by rfl) (fun K hK => ?_); go_big_quiet_op; refine hK _ ?_; clear hK K) | (refine plan_skip (by simp only [List.getElem?_toArray, List.getElem?_cons_zero, List.getElem?_cons_succ]; rfl) (by rfl) ?_; simp only [Act.put, List.setIfInBounds_toArray, List.set_cons_zero, List.set_cons_succ]))
              refine plan_nil ?_
              have eF := grow_ext y3
              generalize grow v9 y3 = w10 at *
              replace hM := Blk.below hM eF (Blk.lt hM)
              replace hE := hE.trans eF
              clear hma hbl2 hmx hml cq1 eF
              have hma : w10.rangeAt b (off + k * 32) (hcells a) := fun i u hu => ((ext_cells hE).1 b _ hbl).trans (hm0 i u hu)
              have hbl2 : b < w10.heap.size := Nat.lt_of_lt_of_le hbl hE.size
              have hmx : w10.rangeAt w.heap.size 0 (hcells x) := cl_mid hM
              go_wp2_with fail
              refine region_keep0 (fun _ => True) (by kernel_rfl) (by kernel_rfl) ?_
              iterate 6 (first | (refine mix_quiet (by rfl) (by rfl) (fun K hK => ?_); go_big_quiet_op; refine hK _ ?_; clear hK K) | (refine mix_skip (by rfl) ?_; simp only [Act.put, List.setIfInBounds_toArray, List.set_cons_zero, List.set_cons_succ]))
              refine held_mid (by rfl) (by rfl) 23 (.tmp 87) rfl w.heap.size 0 (by rfl) (hcells x) _ hmx (Blk.lt hM) trivial Tryd.underlying23 rfl (size32l _ hx) ?_
              simp only [Act.put, List.setIfInBounds_toArray, List.set_cons_zero, List.set_cons_succ]
              iterate 3 (first | (refine mix_quiet (by rfl) (by rfl) (fun K hK => ?_); go_big_quiet_op; refine hK _ ?_; clear hK K) | (refine mix_skip (by rfl) ?_; simp only [Act.put, List.setIfInBounds_toArray, List.set_cons_zero, List.set_cons_succ]))
              refine held_mid (by rfl) (by rfl) 23 (.tmp 91) rfl b (off + k * 32) (by rfl) (hcells a) _ hma hbl2 trivial Tryd.underlying23 rfl (size32l _ hq32) ?_
              simp only [Act.put, List.setIfInBounds_toArray, List.set_cons_zero, List.set_cons_succ]
              unfold hcells
              repeat (first | (refine mix_quiet (by rfl) (by rfl) (fun K hK => ?_); go_big_quiet_op; refine hK _ ?_; clear hK K) | (refine mix_skip (by rfl) ?_; simp only [Act.put, List.setIfInBounds_toArray, List.set_cons_zero, List.set_cons_succ]))
              refine mix_nil ?_
              go_wp2_with fail
              go_ret
              exact ⟨rfl, hE.trans (Ext.refl _).drew⟩
            · skip
              (refine plan_loud (by simp only [List.getElem?_toArray, List.getElem?_cons_zero, List.getElem?_cons_succ]; rfl) (by rfl) (by rfl) (fun K E hK => ?_); go_big_op)
              obtain ⟨y1, hy1⟩ := more_of ((grow_ext y0).alloc (.cells #[.string (bs []), .string (bs [])] 57))
              have hN := Blk.new (grow v9 y0) 57 #[.string (bs []), .string (bs [])]
              have hgb : v9.heap.size ≤ (grow v9 y0).heap.size := (grow_ext y0).size
              change K _ ((grow v9 y0).alloc (.cells #[.string (bs []), .string (bs [])] 57))
              rw [hy1] at hN ⊢
              generalize (grow v9 y0).heap.size = gN at *
              clear hy1
              refine hK _ _ ⟨_, rfl⟩ ?_; clear hK K E
              refine plan_one ?_
              (refine plan_loud (by simp only [List.getElem?_toArray, List.getElem?_cons_zero, List.getElem?_cons_succ]; rfl) (by rfl) (by rfl) (fun K E hK => ?_); go_big_op)
              change Calls _ _ #[_, _, sumV a, sumV x, _, _] _ _
              refine (Leaves_calls (k : Int) (l.length : Int) (by omega) a x hq32 hx _ _ p q hpa hq (by omega) hqn _ (KW.ext (hE.trans (grow_ext y1))) (hP.ext (grow_ext y1)) (hQ0.ext (hE.trans (grow_ext y1)))).mono ?_; rw [HL.out, twC_none]; rintro e w5 ⟨rfl, hd⟩
              replace hN := Blk.below hN hd (Blk.lt hN)
              obtain ⟨y2, rfl⟩ := more_ext _ hd; clear hd
              refine hK _ _ ⟨_, rfl⟩ ?_; clear hK K E
              iterate 2 (first | (refine plan_quiet (by simp only [List.getElem?_toArray, List.getElem?_cons_zero, List.getElem?_cons_succ]; rfl) (by rfl) (by rfl) (fun K hK => ?_); go_big_quiet_op; refine hK _ ?_; clear hK K) | (refine plan_skip (by simp only [List.getElem?_toArray, List.getElem?_cons_zero, List.getElem?_cons_succ]; rfl) (by rfl) ?_; simp only [Act.put, List.setIfInBounds_toArray, List.set_cons_zero, List.set_cons_succ]))
              have hN0 : (grow v9 y2).cell? ⟨gN, 0, none⟩ = some (.string (bs [])) := Blk.cell hN 0
              have hN1 : (grow v9 y2).cell? ⟨gN, 1, none⟩ = some (.string (bs [])) := Blk.cell hN 1
              have f0 := Blk.frozen hN 0
              have f1 := Blk.frozen hN 1
              have hNl := Blk.lt hN
              refine plan_one ?_
              (refine plan_loud (by simp only [List.getElem?_toArray, List.getElem?_cons_zero, List.getElem?_cons_succ]; rfl) (by rfl) (by rfl) (fun K E hK => ?_); go_big_op)
              obtain ⟨y3, hy3⟩ := more_of (((grow_ext y2).setCell (p := ⟨gN, 0, none⟩) hgb (.string (bs []))).setCell (p := ⟨gN, 1, none⟩) hgb (.string (bs [])))
              change K _ (((grow v9 y2).setCell ⟨gN, 0, none⟩ (.string (bs []))).setCell ⟨gN, 1, none⟩ (.string (bs [])))
              rw [hy3]
              refine hK _ _ ⟨_, rfl⟩ ?_; clear hK K E
              clear hy3 hN0 hN1 f0 f1 hNl hN
              iterate 2 (first | (refine plan_quiet (by simp only [List.getElem?_toArray, List.getElem?_cons_zero, List.getElem?_cons_succ]; rfl) (by rfl) (by rfl) (fun K hK => ?_); go_big_quiet_op; refine hK _ ?_; clear hK K) | (refine plan_skip (by simp only [List.getElem?_toArray, List.getElem?_cons_zero, List.getElem?_cons_succ]; rfl) (by rfl) ?_; simp only [Act.put, List.setIfInBounds_toArray, List.set_cons_zero, List.set_cons_succ]))
              refine plan_nil ?_
              have eF := grow_ext y3
              generalize grow v9 y3 = w10 at *
              replace hM := Blk.below hM eF (Blk.lt hM)
              replace hE := hE.trans eF
              clear hma hbl2 hmx hml cq1 eF
              have hma : w10.rangeAt b (off + k * 32) (hcells a) := fun i u hu => ((ext_cells hE).1 b _ hbl).trans (hm0 i u hu)
              have hbl2 : b < w10.heap.size := Nat.lt_of_lt_of_le hbl hE.size
              have hmx : w10.rangeAt w.heap.size 0 (hcells x) := cl_mid hM
              go_wp2_with fail
              refine region_keep0 (fun _ => True) (by kernel_rfl) (by kernel_rfl) ?_
              iterate 6 (first | (refine mix_quiet (by rfl) (by rfl) (fun K hK => ?_); go_big_quiet_op; refine hK _ ?_; clear hK K) | (refine mix_skip (by rfl) ?_; simp only [Act.put, List.setIfInBounds_toArray, List.set_cons_zero, List.set_cons_succ]))
              refine held_mid (by rfl) (by rfl) 23 (.tmp 87) rfl w.heap.size 0 (by rfl) (hcells x) _ hmx (Blk.lt hM) trivial Tryd.underlying23 rfl (size32l _ hx) ?_
              simp only [Act.put, List.setIfInBounds_toArray, List.set_cons_zero, List.set_cons_succ]
              iterate 3 (first | (refine mix_quiet (by rfl) (by rfl) (fun K hK => ?_); go_big_quiet_op; refine hK _ ?_; clear hK K) | (refine mix_skip (by rfl) ?_; simp only [Act.put, List.setIfInBounds_toArray, List.set_cons_zero, List.set_cons_succ]))
              refine held_mid (by rfl) (by rfl) 23 (.tmp 91) rfl b (off + k * 32) (by rfl) (hcells a) _ hma hbl2 trivial Tryd.underlying23 rfl (size32l _ hq32) ?_
              simp only [Act.put, List.setIfInBounds_toArray, List.set_cons_zero, List.set_cons_succ]
              unfold hcells
              repeat (first | (refine mix_quiet (by rfl) (by rfl) (fun K hK => ?_); go_big_quiet_op; refine hK _ ?_; clear hK K) | (refine mix_skip (by rfl) ?_; simp only [Act.put, List.setIfInBounds_toArray, List.set_cons_zero, List.set_cons_succ]))
              refine mix_nil ?_
              go_wp2_with fail
              go_ret
              exact ⟨rfl, hE.trans (Ext.refl _).drew⟩
          · obtain ⟨rr, ss, hrs⟩ := hLT.2 (fun h => hax h.1)
            have HL := Lib.hid hrs
            have dx : decide (x = a) = false := decide_eq_false (fun h => hax h.symm)
            rw [dx] at heqx
            clear dx hax hpq hLT hrs
            go_wp2_with fail
            refine (Same_calls _ _ p q hpa hq _ hP (hQ0.ext hE)).mono ?_; rw [HPQ.out]; rintro e v9 ⟨rfl, e8⟩
            replace hM := Blk.below hM e8 (Blk.lt hM)
            replace hP := hP.ext e8
            replace hY := Blk.below hY e8 (Blk.lt hY)
            replace hE := hE.trans e8
            replace cq1 : v9.cell? ⟨w.heap.size, 32, none⟩ = some (.slice Pq q.length kq) := cl_cell hx hM
            replace hmx : v9.rangeAt w.heap.size 0 (hcells x) := cl_mid hM
            replace hml := Blk.lt hM
            replace hma : v9.rangeAt b (off + k * 32) (hcells a) := fun i u hu => ((ext_cells hE).1 b _ hbl).trans (hm0 i u hu)
            replace hbl2 : b < v9.heap.size := Nat.lt_of_lt_of_le hbl hE.size
            clear e8
            go_wp2_with fail
            refine region_plan 19 (Plan.run [0, 1, 2, 3, 4, 5, 6, 7, 8, 9, 10, 11] (.two 12 16 (Plan.run [13, 14, 16, 17, 15, 18] .nil) (Plan.run [12, 13, 14, 17, 15, 18] .nil))) (by kernel_rfl) (by kernel_rfl) (fun y0 => ?_); simp only [Plan.run, List.drop_succ_cons, List.drop_zero, List.drop_nil]
            iterate 6 (first | (refine plan_quiet (by simp only [List.getElem?_toArray, List.getElem?_cons_zero, List.getElem?_cons_succ]; rfl) (by rfl) (by rfl) (fun K hK => ?_); go_big_quiet_op; refine hK _ ?_; clear hK K) | (refine plan_skip (by simp only [List.getElem?_toArray, List.getElem?_cons_zero, List.getElem?_cons_succ]; rfl) (by rfl) ?_; simp only [Act.put, List.setIfInBounds_toArray, List.set_cons_zero, List.set_cons_succ]))
            refine plan_mid (by simp only [List.getElem?_toArray, List.getElem?_cons_zero, List.getElem?_cons_succ]; rfl) (by rfl) (by rfl) 23 (.tmp 72) rfl b (off + k * 32) (by rfl) _ _ hma hbl2 Tryd.underlying23 rfl (size32l _ hq32) ?_
            simp only [Act.put, List.setIfInBounds_toArray, List.set_cons_zero, List.set_cons_succ]
            iterate 1 (first | (refine plan_quiet (by simp only [List.getElem?_toArray, List.getElem?_cons_zero, List.getElem?_cons_succ]; rfl) (by rfl) (by rfl) (fun K hK => ?_); go_big_quiet_op; refine hK _ ?_; clear hK K) | (refine plan_skip (by simp only [List.getElem?_toArray, List.getElem?_cons_zero, List.getElem?_cons_succ]; rfl) (by rfl) ?_; simp only [Act.put, List.setIfInBounds_toArray, List.set_cons_zero, List.set_cons_succ]))
            refine plan_mid (by simp only [List.getElem?_toArray, List.getElem?_cons_zero, List.getElem?_cons_succ]; rfl) (by rfl) (by rfl) 23 (.tmp 74) rfl w.heap.size 0 (by rfl) _ _ hmx hml Tryd.underlying23 rfl (size32l _ hx) ?_
            simp only [Act.put, List.setIfInBounds_toArray, List.set_cons_zero, List.set_cons_succ]
            unfold hcells
            iterate 3 (first | (refine plan_quiet (by simp only [List.getElem?_toArray, List.getElem?_cons_zero, List.getElem?_cons_succ]; rfl) (by rfl) (by rfl) (fun K hK => ?_); go_big_quiet_op; refine hK _ ?_; clear hK K) | (refine plan_skip (by simp only [List.getElem?_toArray, List.getElem?_cons_zero, List.getElem?_cons_succ]; rfl) (by rfl) ?_; simp only [Act.put, List.setIfInBounds_toArray, List.set_cons_zero, List.set_cons_succ]))
            refine plan_two ?_ ?_
            · skip
              (refine plan_loud (by simp only [List.getElem?_toArray, List.getElem?_cons_zero, List.getElem?_cons_succ]; rfl) (by rfl) (by rfl) (fun K E hK => ?_); go_big_op)
              change Calls _ _ #[_, _, sumV a, sumV x, _, _] _ _
              refine (Leaves_calls (k : Int) (l.length : Int) (by omega) a x hq32 hx _ _ p q hpa hq (by omega) hqn _ (KW.ext (hE.trans (grow_ext y0))) (hP.ext (grow_ext y0)) (hQ0.ext (hE.trans (grow_ext y0)))).mono ?_; rw [HL.out, twC_some]; rintro e w5 ⟨rfl, hd⟩
              obtain ⟨y1, rfl⟩ := more_ext _ hd; clear hd
              refine hK _ _ ⟨_, rfl⟩ ?_; clear hK K E
              iterate 2 (first | (refine plan_quiet (by simp only [List.getElem?_toArray, List.getElem?_cons_zero, List.getElem?_cons_succ]; rfl) (by rfl) (by rfl) (fun K hK => ?_); go_big_quiet_op; refine hK _ ?_; clear hK K) | (refine plan_skip (by simp only [List.getElem?_toArray, List.getElem?_cons_zero, List.getElem?_cons_succ]; rfl) (by rfl) ?_; simp only [Act.put, List.setIfInBounds_toArray, List.set_cons_zero, List.set_cons_succ]))
              refine plan_one ?_
              (refine plan_loud (by simp only [List.getElem?_toArray, List.getElem?_cons_zero, List.getElem?_cons_succ]; rfl) (by rfl) (by rfl) (fun K E hK => ?_); go_big_op)
              obtain ⟨y2, hy2⟩ := more_of ((grow_ext y1).alloc (.cells #[.string (bs []), .string (bs [])] 57))
              have hN := Blk.new (grow v9 y1) 57 #[.string (bs []), .string (bs [])]
              have hgb : v9.heap.size ≤ (grow v9 y1).heap.size := (grow_ext y1).size
              change K _ ((grow v9 y1).alloc (.cells #[.string (bs []), .string (bs [])] 57))
              rw [hy2] at hN ⊢
              generalize (grow v9 y1).heap.size = gN at *
              clear hy2
              refine hK _ _ ⟨_, rfl⟩ ?_; clear hK K E
              have hN0 : (grow v9 y2).cell? ⟨gN, 0, none⟩ = some (.string (bs [])) := Blk.cell hN 0
              have hN1 : (grow v9 y2).cell? ⟨gN, 1, none⟩ = some (.string (bs [])) := Blk.cell hN 1
              have f0 := Blk.frozen hN 0
              have f1 := Blk.frozen hN 1
              have hNl := Blk.lt hN
              refine plan_one ?_
              (refine plan_loud (by simp only [List.getElem?_toArray, List.getElem?_cons_zero, List.getElem?_cons_succ]; rfl) (by rfl) (by rfl) (fun K E hK => ?_); go_big_op)
              obtain ⟨y3, hy3⟩ := more_of (((grow_ext y2).setCell (p := ⟨gN, 0, none⟩) hgb (.string (bs rr))).setCell (p := ⟨gN, 1, none⟩) hgb (.string (bs ss)))
              change K _ (((grow v9 y2).setCell ⟨gN, 0, none⟩ (.string (bs rr))).setCell ⟨gN, 1, none⟩ (.string (bs ss)))
              rw [hy3]
              refine hK _ _ ⟨_, rfl⟩ ?_; clear hK K E
              clear hy3 hN0 hN1 f0 f1 hNl hN
              iterate 2 (first | (refine plan_quiet (by simp only [List.getElem?_toArray, List.getElem?_cons_zero, List.getElem?_cons_succ]; rfl) (by rfl) (by rfl) (fun K hK => ?_); go_big_quiet_op; refine hK _ ?_; clear hK K) | (refine plan_skip (by simp only [List.getElem?_toArray, List.getElem?_cons_zero, List.getElem?_cons_succ]; rfl) (by rfl) ?_; simp only [Act.put, List.setIfInBounds_toArray, List.set_cons_zero, List.set_cons_succ]))
              refine plan_nil ?_
              have eF := grow_ext y3
              generalize grow v9 y3 = w10 at *
              replace hM := Blk.below hM eF (Blk.lt hM)
              replace hE := hE.trans eF
              clear hma hbl2 hmx hml cq1 eF
              have hma : w10.rangeAt b (off + k * 32) (hcells a) := fun i u hu => ((ext_cells hE).1 b _ hbl).trans (hm0 i u hu)
              have hbl2 : b < w10.heap.size := Nat.lt_of_lt_of_le hbl hE.size
              have hmx : w10.rangeAt w.heap.size 0 (hcells x) := cl_mid hM
              go_wp2_with fail
              refine region_keep0 (fun _ => True) (by kernel_rfl) (by kernel_rfl) ?_
              iterate 6 (first | (refine mix_quiet (by rfl) (by rfl) (fun K hK => ?_); go_big_quiet_op; refine hK _ ?_; clear hK K) | (refine mix_skip (by rfl) ?_; simp only [Act.put, List.setIfInBounds_toArray, List.set_cons_zero, List.set_cons_succ]))
              refine held_mid (by rfl) (by rfl) 23 (.tmp 87) rfl w.heap.size 0 (by rfl) (hcells x) _ hmx (Blk.lt hM) trivial Tryd.underlying23 rfl (size32l _ hx) ?_
              simp only [Act.put, List.setIfInBounds_toArray, List.set_cons_zero, List.set_cons_succ]
              iterate 3 (first | (refine mix_quiet (by rfl) (by rfl) (fun K hK => ?_); go_big_quiet_op; refine hK _ ?_; clear hK K) | (refine mix_skip (by rfl) ?_; simp only [Act.put, List.setIfInBounds_toArray, List.set_cons_zero, List.set_cons_succ]))
              refine held_mid (by rfl) (by rfl) 23 (.tmp 91) rfl b (off + k * 32) (by rfl) (hcells a) _ hma hbl2 trivial Tryd.underlying23 rfl (size32l _ hq32) ?_
              simp only [Act.put, List.setIfInBounds_toArray, List.set_cons_zero, List.set_cons_succ]
              unfold hcells
              repeat (first | (refine mix_quiet (by rfl) (by rfl) (fun K hK => ?_); go_big_quiet_op; refine hK _ ?_; clear hK K) | (refine mix_skip (by rfl) ?_; simp only [Act.put, List.setIfInBounds_toArray, List.set_cons_zero, List.set_cons_succ]))
              refine mix_nil ?_
              go_wp2_with fail
              go_ret
              exact ⟨rfl, hE.trans (Ext.refl _).drew⟩
            · skip
              (refine plan_loud (by simp only [List.getElem?_toArray, List.getElem?_cons_zero, List.getElem?_cons_succ]; rfl) (by rfl) (by rfl) (fun K E hK => ?_); go_big_op)
              obtain ⟨y1, hy1⟩ := more_of ((grow_ext y0).alloc (.cells #[.string (bs []), .string (bs [])] 57))
              have hN := Blk.new (grow v9 y0) 57 #[.string (bs []), .string (bs [])]
              have hgb : v9.heap.size ≤ (grow v9 y0).heap.size := (grow_ext y0).size
              change K _ ((grow v9 y0).alloc (.cells #[.string (bs []), .string (bs [])] 57))
              rw [hy1] at hN ⊢
              generalize (grow v9 y0).heap.size = gN at *
              clear hy1
              refine hK _ _ ⟨_, rfl⟩ ?_; clear hK K E
              refine plan_one ?_
              (refine plan_loud (by simp only [List.getElem?_toArray, List.getElem?_cons_zero, List.getElem?_cons_succ]; rfl) (by rfl) (by rfl) (fun K E hK => ?_); go_big_op)
              change Calls _ _ #[_, _, sumV a, sumV x, _, _] _ _
              refine (Leaves_calls (k : Int) (l.length : Int) (by omega) a x hq32 hx _ _ p q hpa hq (by omega) hqn _ (KW.ext (hE.trans (grow_ext y1))) (hP.ext (grow_ext y1)) (hQ0.ext (hE.trans (grow_ext y1)))).mono ?_; rw [HL.out, twC_some]; rintro e w5 ⟨rfl, hd⟩
              replace hN := Blk.below hN hd (Blk.lt hN)
              obtain ⟨y2, rfl⟩ := more_ext _ hd; clear hd
              refine hK _ _ ⟨_, rfl⟩ ?_; clear hK K E
              iterate 2 (first | (refine plan_quiet (by simp only [List.getElem?_toArray, List.getElem?_cons_zero, List.getElem?_cons_succ]; rfl) (by rfl) (by rfl) (fun K hK => ?_); go_big_quiet_op; refine hK _ ?_; clear hK K) | (refine plan_skip (by simp only [List.getElem?_toArray, List.getElem?_cons_zero, List.getElem?_cons_succ]; rfl) (by rfl) ?_; simp only [Act.put, List.setIfInBounds_toArray, List.set_cons_zero, List.set_cons_succ]))
              have hN0 : (grow v9 y2).cell? ⟨gN, 0, none⟩ = some (.string (bs [])) := Blk.cell hN 0
              have hN1 : (grow v9 y2).cell? ⟨gN, 1, none⟩ = some (.string (bs [])) := Blk.cell hN 1
              have f0 := Blk.frozen hN 0
              have f1 := Blk.frozen hN 1
              have hNl := Blk.lt hN
              refine plan_one ?_
              (refine plan_loud (by simp only [List.getElem?_toArray, List.getElem?_cons_zero, List.getElem?_cons_succ]; rfl) (by rfl) (by rfl) (fun K E hK => ?_); go_big_op)
              obtain ⟨y3, hy3⟩ := more_of (((grow_ext y2).setCell (p := ⟨gN, 0, none⟩) hgb (.string (bs rr))).setCell (p := ⟨gN, 1, none⟩) hgb (.string (bs ss)))
              change K _ (((grow v9 y2).setCell ⟨gN, 0, none⟩ (.string (bs rr))).setCell ⟨gN, 1, none⟩ (.string (bs ss)))
              rw [hy3]
              refine hK _ _ ⟨_, rfl⟩ ?_; clear hK K E
              clear hy3 hN0 hN1 f0 f1 hNl hN
              iterate 2 (first | (refine plan_quiet (by simp only [List.getElem?_toArray, List.getElem?_cons_zero, List.getElem?_cons_succ]; rfl) (by rfl) (by rfl) (fun K hK => ?_); go_big_quiet_op; refine hK _ ?_; clear hK K) | (refine plan_skip (by simp only [List.getElem?_toArray, List.getElem?_cons_zero, List.getElem?_cons_succ]; rfl) (by rfl) ?_; simp only [Act.put, List.setIfInBounds_toArray, List.set_cons_zero, List.set_cons_succ]))
              refine plan_nil ?_
              have eF := grow_ext y3
              generalize grow v9 y3 = w10 at *
              replace hM := Blk.below hM eF (Blk.lt hM)
              replace hE := hE.trans eF
              clear hma hbl2 hmx hml cq1 eF
              have hma : w10.rangeAt b (off + k * 32) (hcells a) := fun i u hu => ((ext_cells hE).1 b _ hbl).trans (hm0 i u hu)
              have hbl2 : b < w10.heap.size := Nat.lt_of_lt_of_le hbl hE.size
              have hmx : w10.rangeAt w.heap.size 0 (hcells x) := cl_mid hM
              go_wp2_with fail
              refine region_keep0 (fun _ => True) (by kernel_rfl) (by kernel_rfl) ?_
              iterate 6 (first | (refine mix_quiet (by rfl) (by rfl) (fun K hK => ?_); go_big_quiet_op; refine hK _ ?_; clear hK K) | (refine mix_skip (by rfl) ?_; simp only [Act.put, List.setIfInBounds_toArray, List.set_cons_zero, List.set_cons_succ]))
              refine held_mid (by rfl) (by rfl) 23 (.tmp 87) rfl w.heap.size 0 (by rfl) (hcells x) _ hmx (Blk.lt hM) trivial Tryd.underlying23 rfl (size32l _ hx) ?_
              simp only [Act.put, List.setIfInBounds_toArray, List.set_cons_zero, List.set_cons_succ]
              iterate 3 (first | (refine mix_quiet (by rfl) (by rfl) (fun K hK => ?_); go_big_quiet_op; refine hK _ ?_; clear hK K) | (refine mix_skip (by rfl) ?_; simp only [Act.put, List.setIfInBounds_toArray, List.set_cons_zero, List.set_cons_succ]))
              refine held_mid (by rfl) (by rfl) 23 (.tmp 91) rfl b (off + k * 32) (by rfl) (hcells a) _ hma hbl2 trivial Tryd.underlying23 rfl (size32l _ hq32) ?_
              simp only [Act.put, List.setIfInBounds_toArray, List.set_cons_zero, List.set_cons_succ]
              unfold hcells
              repeat (first | (refine mix_quiet (by rfl) (by rfl) (fun K hK => ?_); go_big_quiet_op; refine hK _ ?_; clear hK K) | (refine mix_skip (by rfl) ?_; simp only [Act.put, List.setIfInBounds_toArray, List.set_cons_zero, List.set_cons_succ]))
              refine mix_nil ?_
              go_wp2_with fail
              go_ret
              exact ⟨rfl, hE.trans (Ext.refl _).drew⟩
        · have HPQ : Hid (decide (p = q) = false) := Lib.hid (decide_eq_false hpq)
          obtain ⟨rr, ss, hrs⟩ := hLT.2 (fun h => hpq h.2)
          have HL := Lib.hid hrs
          clear hpq hLT hrs heqx
          go_wp2_with fail
          refine (Same_calls _ _ p q hpa hq _ hP (hQ0.ext hE)).mono ?_; rw [HPQ.out]; rintro e v9 ⟨rfl, e8⟩
          replace hM := Blk.below hM e8 (Blk.lt hM)
          replace hP := hP.ext e8
          replace hY := Blk.below hY e8 (Blk.lt hY)
          replace hE := hE.trans e8
          replace cq1 : v9.cell? ⟨w.heap.size, 32, none⟩ = some (.slice Pq q.length kq) := cl_cell hx hM
          replace hmx : v9.rangeAt w.heap.size 0 (hcells x) := cl_mid hM
          replace hml := Blk.lt hM
          replace hma : v9.rangeAt b (off + k * 32) (hcells a) := fun i u hu => ((ext_cells hE).1 b _ hbl).trans (hm0 i u hu)
          replace hbl2 : b < v9.heap.size := Nat.lt_of_lt_of_le hbl hE.size
          clear e8
          go_wp2_with fail
          refine region_plan 19 (Plan.run [0, 1, 2, 3, 4, 5, 6, 7, 8, 9, 10, 11] (.two 12 16 (Plan.run [13, 14, 16, 17, 15, 18] .nil) (Plan.run [12, 13, 14, 17, 15, 18] .nil))) (by kernel_rfl) (by kernel_rfl) (fun y0 => ?_); simp only [Plan.run, List.drop_succ_cons, List.drop_zero, List.drop_nil]
          iterate 6 (first | (refine plan_quiet (by simp only [List.getElem?_toArray, List.getElem?_cons_zero, List.getElem?_cons_succ]; rfl) (by rfl) (by rfl) (fun K hK => ?_); go_big_quiet_op; refine hK _ ?_; clear hK K) | (refine plan_skip (by simp only [List.getElem?_toArray, List.getElem?_cons_zero, List.getElem?_cons_succ]; rfl) (by rfl) ?_; simp only [Act.put, List.setIfInBounds_toArray, List.set_cons_zero, List.set_cons_succ]))
          refine plan_mid (by simp only [List.getElem?_toArray, List.getElem?_cons_zero, List.getElem?_cons_succ]; rfl) (by rfl) (by rfl) 23 (.tmp 72) rfl b (off + k * 32) (by rfl) _ _ hma hbl2 Tryd.underlying23 rfl (size32l _ hq32) ?_
          simp only [Act.put, List.setIfInBounds_toArray, List.set_cons_zero, List.set_cons_succ]
          iterate 1 (first | (refine plan_quiet (by simp only [List.getElem?_toArray, List.getElem?_cons_zero, List.getElem?_cons_succ]; rfl) (by rfl) (by rfl) (fun K hK => ?_); go_big_quiet_op; refine hK _ ?_; clear hK K) | (refine plan_skip (by simp only [List.getElem?_toArray, List.getElem?_cons_zero, List.getElem?_cons_succ]; rfl) (by rfl) ?_; simp only [Act.put, List.setIfInBounds_toArray, List.set_cons_zero, List.set_cons_succ]))
          refine plan_mid (by simp only [List.getElem?_toArray, List.getElem?_cons_zero, List.getElem?_cons_succ]; rfl) (by rfl) (by rfl) 23 (.tmp 74) rfl w.heap.size 0 (by rfl) _ _ hmx hml Tryd.underlying23 rfl (size32l _ hx) ?_
          simp only [Act.put, List.setIfInBounds_toArray, List.set_cons_zero, List.set_cons_succ]
          unfold hcells
          iterate 3 (first | (refine plan_quiet (by simp only [List.getElem?_toArray, List.getElem?_cons_zero, List.getElem?_cons_succ]; rfl) (by rfl) (by rfl) (fun K hK => ?_); go_big_quiet_op; refine hK _ ?_; clear hK K) | (refine plan_skip (by simp only [List.getElem?_toArray, List.getElem?_cons_zero, List.getElem?_cons_succ]; rfl) (by rfl) ?_; simp only [Act.put, List.setIfInBounds_toArray, List.set_cons_zero, List.set_cons_succ]))
          refine plan_two ?_ ?_
          · skip
            (refine plan_loud (by simp only [List.getElem?_toArray, List.getElem?_cons_zero, List.getElem?_cons_succ]; rfl) (by rfl) (by rfl) (fun K E hK => ?_); go_big_op)
            change Calls _ _ #[_, _, sumV a, sumV x, _, _] _ _
            refine (Leaves_calls (k : Int) (l.length : Int) (by omega) a x hq32 hx _ _ p q hpa hq (by omega) hqn _ (KW.ext (hE.trans (grow_ext y0))) (hP.ext (grow_ext y0)) (hQ0.ext (hE.trans (grow_ext y0)))).mono ?_; rw [HL.out, twC_some]; rintro e w5 ⟨rfl, hd⟩
            obtain ⟨y1, rfl⟩ := more_ext _ hd; clear hd
            refine hK _ _ ⟨_, rfl⟩ ?_; clear hK K E
            iterate 2 (first | (refine plan_quiet (by simp only [List.getElem?_toArray, List.getElem?_cons_zero, List.getElem?_cons_succ]; rfl) (by rfl) (by rfl) (fun K hK => ?_); go_big_quiet_op; refine hK _ ?_; clear hK K) | (refine plan_skip (by simp only [List.getElem?_toArray, List.getElem?_cons_zero, List.getElem?_cons_succ]; rfl) (by rfl) ?_; simp only [Act.put, List.setIfInBounds_toArray, List.set_cons_zero, List.set_cons_succ]))
            refine plan_one ?_
            (refine plan_loud (by simp only [List.getElem?_toArray, List.getElem?_cons_zero, List.getElem?_cons_succ]; rfl) (by rfl) (by rfl) (fun K E hK => ?_); go_big_op)
            obtain ⟨y2, hy2⟩ := more_of ((grow_ext y1).alloc (.cells #[.string (bs []), .string (bs [])] 57))
            have hN := Blk.new (grow v9 y1) 57 #[.string (bs []), .string (bs [])]
            have hgb : v9.heap.size ≤ (grow v9 y1).heap.size := (grow_ext y1).size
            change K _ ((grow v9 y1).alloc (.cells #[.string (bs []), .string (bs [])] 57))
            rw [hy2] at hN ⊢
            generalize (grow v9 y1).heap.size = gN at *
            clear hy2
            refine hK _ _ ⟨_, rfl⟩ ?_; clear hK K E
            have hN0 : (grow v9 y2).cell? ⟨gN, 0, none⟩ = some (.string (bs [])) := Blk.cell hN 0
            have hN1 : (grow v9 y2).cell? ⟨gN, 1, none⟩ = some (.string (bs [])) := Blk.cell hN 1
            have f0 := Blk.frozen hN 0
            have f1 := Blk.frozen hN 1
            have hNl := Blk.lt hN
            refine plan_one ?_
            (refine plan_loud (by simp only [List.getElem?_toArray, List.getElem?_cons_zero, List.getElem?_cons_succ]; rfl) (by rfl) (by rfl) (fun K E hK => ?_); go_big_op)
            obtain ⟨y3, hy3⟩ := more_of (((grow_ext y2).setCell (p := ⟨gN, 0, none⟩) hgb (.string (bs rr))).setCell (p := ⟨gN, 1, none⟩) hgb (.string (bs ss)))
            change K _ (((grow v9 y2).setCell ⟨gN, 0, none⟩ (.string (bs rr))).setCell ⟨gN, 1, none⟩ (.string (bs ss)))
            rw [hy3]
            refine hK _ _ ⟨_, rfl⟩ ?_; clear hK K E
            clear hy3 hN0 hN1 f0 f1 hNl hN
            iterate 2 (first | (refine plan_quiet (by simp only [List.getElem?_toArray, List.getElem?_cons_zero, List.getElem?_cons_succ]; rfl) (by rfl) (by rfl) (fun K hK => ?_); go_big_quiet_op; refine hK _ ?_; clear hK K) | (refine plan_skip (by simp only [List.getElem?_toArray, List.getElem?_cons_zero, List.getElem?_cons_succ]; rfl) (by rfl) ?_; simp only [Act.put, List.setIfInBounds_toArray, List.set_cons_zero, List.set_cons_succ]))
            refine plan_nil ?_
            have eF := grow_ext y3
            generalize grow v9 y3 = w10 at *
            replace hM := Blk.below hM eF (Blk.lt hM)
            replace hE := hE.trans eF
            clear hma hbl2 hmx hml cq1 eF
            have hma : w10.rangeAt b (off + k * 32) (hcells a) := fun i u hu => ((ext_cells hE).1 b _ hbl).trans (hm0 i u hu)
            have hbl2 : b < w10.heap.size := Nat.lt_of_lt_of_le hbl hE.size
            have hmx : w10.rangeAt w.heap.size 0 (hcells x) := cl_mid hM
            go_wp2_with fail
            refine region_keep0 (fun _ => True) (by kernel_rfl) (by kernel_rfl) ?_
            repeat (first | (refine mix_quiet (by rfl) (by rfl) (fun K hK => ?_); go_big_quiet_op; refine hK _ ?_; clear hK K) | (refine mix_skip (by rfl) ?_; simp only [Act.put, List.setIfInBounds_toArray, List.set_cons_zero, List.set_cons_succ]))
            refine mix_nil ?_
            go_wp2_with fail
            go_ret
            exact ⟨rfl, hE.trans (Ext.refl _).drew⟩
          · skip
            (refine plan_loud (by simp only [List.getElem?_toArray, List.getElem?_cons_zero, List.getElem?_cons_succ]; rfl) (by rfl) (by rfl) (fun K E hK => ?_); go_big_op)
            obtain ⟨y1, hy1⟩ := more_of ((grow_ext y0).alloc (.cells #[.string (bs []), .string (bs [])] 57))
            have hN := Blk.new (grow v9 y0) 57 #[.string (bs []), .string (bs [])]
            have hgb : v9.heap.size ≤ (grow v9 y0).heap.size := (grow_ext y0).size
            change K _ ((grow v9 y0).alloc (.cells #[.string (bs []), .string (bs [])] 57))
            rw [hy1] at hN ⊢
            generalize (grow v9 y0).heap.size = gN at *
            clear hy1
            refine hK _ _ ⟨_, rfl⟩ ?_; clear hK K E
            refine plan_one ?_
            (refine plan_loud (by simp only [List.getElem?_toArray, List.getElem?_cons_zero, List.getElem?_cons_succ]; rfl) (by rfl) (by rfl) (fun K E hK => ?_); go_big_op)
            change Calls _ _ #[_, _, sumV a, sumV x, _, _] _ _
            refine (Leaves_calls (k : Int) (l.length : Int) (by omega) a x hq32 hx _ _ p q hpa hq (by omega) hqn _ (KW.ext (hE.trans (grow_ext y1))) (hP.ext (grow_ext y1)) (hQ0.ext (hE.trans (grow_ext y1)))).mono ?_; rw [HL.out, twC_some]; rintro e w5 ⟨rfl, hd⟩
            replace hN := Blk.below hN hd (Blk.lt hN)
            obtain ⟨y2, rfl⟩ := more_ext _ hd; clear hd
            refine hK _ _ ⟨_, rfl⟩ ?_; clear hK K E
            iterate 2 (first | (refine plan_quiet (by simp only [List.getElem?_toArray, List.getElem?_cons_zero, List.getElem?_cons_succ]; rfl) (by rfl) (by rfl) (fun K hK => ?_); go_big_quiet_op; refine hK _ ?_; clear hK K) | (refine plan_skip (by simp only [List.getElem?_toArray, List.getElem?_cons_zero, List.getElem?_cons_succ]; rfl) (by rfl) ?_; simp only [Act.put, List.setIfInBounds_toArray, List.set_cons_zero, List.set_cons_succ]))
            have hN0 : (grow v9 y2).cell? ⟨gN, 0, none⟩ = some (.string (bs [])) := Blk.cell hN 0
            have hN1 : (grow v9 y2).cell? ⟨gN, 1, none⟩ = some (.string (bs [])) := Blk.cell hN 1
            have f0 := Blk.frozen hN 0
            have f1 := Blk.frozen hN 1
            have hNl := Blk.lt hN
            refine plan_one ?_
            (refine plan_loud (by simp only [List.getElem?_toArray, List.getElem?_cons_zero, List.getElem?_cons_succ]; rfl) (by rfl) (by rfl) (fun K E hK => ?_); go_big_op)
            obtain ⟨y3, hy3⟩ := more_of (((grow_ext y2).setCell (p := ⟨gN, 0, none⟩) hgb (.string (bs rr))).setCell (p := ⟨gN, 1, none⟩) hgb (.string (bs ss)))
            change K _ (((grow v9 y2).setCell ⟨gN, 0, none⟩ (.string (bs rr))).setCell ⟨gN, 1, none⟩ (.string (bs ss)))
            rw [hy3]
            refine hK _ _ ⟨_, rfl⟩ ?_; clear hK K E
            clear hy3 hN0 hN1 f0 f1 hNl hN
            iterate 2 (first | (refine plan_quiet (by simp only [List.getElem?_toArray, List.getElem?_cons_zero, List.getElem?_cons_succ]; rfl) (by rfl) (by rfl) (fun K hK => ?_); go_big_quiet_op; refine hK _ ?_; clear hK K) | (refine plan_skip (by simp only [List.getElem?_toArray, List.getElem?_cons_zero, List.getElem?_cons_succ]; rfl) (by rfl) ?_; simp only [Act.put, List.setIfInBounds_toArray, List.set_cons_zero, List.set_cons_succ]))
            refine plan_nil ?_
            have eF := grow_ext y3
            generalize grow v9 y3 = w10 at *
            replace hM := Blk.below hM eF (Blk.lt hM)
            replace hE := hE.trans eF
            clear hma hbl2 hmx hml cq1 eF
            have hma : w10.rangeAt b (off + k * 32) (hcells a) := fun i u hu => ((ext_cells hE).1 b _ hbl).trans (hm0 i u hu)
            have hbl2 : b < w10.heap.size := Nat.lt_of_lt_of_le hbl hE.size
            have hmx : w10.rangeAt w.heap.size 0 (hcells x) := cl_mid hM
            go_wp2_with fail
            refine region_keep0 (fun _ => True) (by kernel_rfl) (by kernel_rfl) ?_
            repeat (first | (refine mix_quiet (by rfl) (by rfl) (fun K hK => ?_); go_big_quiet_op; refine hK _ ?_; clear hK K) | (refine mix_skip (by rfl) ?_; simp only [Act.put, List.setIfInBounds_toArray, List.set_cons_zero, List.set_cons_succ]))
            refine mix_nil ?_
            go_wp2_with fail
            go_ret
            exact ⟨rfl, hE.trans (Ext.refl _).drew⟩
      · have dz : decide (y = z) = false := decide_eq_false hyz
        rw [dz] at heqz
        clear dz hyz
        refine region_keep0 (fun _ => True) (by kernel_rfl) (by kernel_rfl) ?_
        have K0 : Ext v5 v5.drew := (Ext.refl v5).drew
        iterate 3 (first | (refine mix_quiet (by rfl) (by rfl) (fun K hK => ?_); go_big_quiet_op; refine hK _ ?_; clear hK K) | (refine mix_skip (by rfl) ?_; simp only [Act.put, List.setIfInBounds_toArray, List.set_cons_zero, List.set_cons_succ]))
        refine held_row (by rfl) (by rfl) 23 (.tmp 12) rfl g7 (by rfl) 23 _ _ hY trivial Tryd.underlying23 rfl (size32.trans (by simp [hy])) ?_
        simp only [Act.put, List.setIfInBounds_toArray, List.set_cons_zero, List.set_cons_succ]
        iterate 1 (first | (refine mix_quiet (by rfl) (by rfl) (fun K hK => ?_); go_big_quiet_op; refine hK _ ?_; clear hK K) | (refine mix_skip (by rfl) ?_; simp only [Act.put, List.setIfInBounds_toArray, List.set_cons_zero, List.set_cons_succ]))
        (refine mix_loud (by rfl) (by rfl) (fun K E hK => ?_); go_big_op)
        refine (refRoot_calls _ l hf _ (hS8 _ (hE.trans K0))).mono ?_; rw [← Hz.out]; rintro e u1 ⟨rfl, K1⟩
        have K1 := K0.trans K1
        refine hK _ _ (held_of (Keep.of_ext K1)) ?_; clear hK K E
        unfold sumV
        repeat (first | (refine mix_quiet (by rfl) (by rfl) (fun K hK => ?_); go_big_quiet_op; refine hK _ ?_; clear hK K) | (refine mix_skip (by rfl) ?_; simp only [Act.put, List.setIfInBounds_toArray, List.set_cons_zero, List.set_cons_succ]))
        refine mix_nil ?_
        go_wp2_with fail
        go_ret
        exact ⟨rfl, hE.trans K1⟩

set_option maxRecDepth 100000 in
theorem contract (H : Type) (enc : TypeId × Value → H) (W : World) (base : Nat) (args : Array Value) (ds gs : List (DataW H)) (before : List MemPlace)
    (hval0 : ∀ (j : Nat) t v, Tryd.f11.params[j]? = some t → args[j]? = some v → Value.okWide Tryd.prog W .any base t v)
    (hW : DataW.Whole enc Tryd.prog Tryd.f11.params.toList Rows.twinTreeSpec.vars false W args.toList ds gs before) (hL : laidMetH Tryd.prog Rows.twinTreeRow.laid W) :
    Calls Tryd.prog 11 args W fun e W' => ∃ v, e = .returned v ∧ Rows.twinTreeSpec.post enc Tryd.prog Tryd.f11 false true false false W args v W' := by
  have K : Keys W := keys_of hL
  have hval : ∀ (j : Nat) t v, Tryd.f11.params[j]? = some t → args[j]? = some v → Value.okWide Tryd.prog W .any base t v := hval0
  have hW' := hW
  obtain ⟨p, q, hA0, hV, rfl, hfz, hnd⟩ := hW
  have hA : DataW.TrodAll enc Tryd.prog W 0 (fun _ => true) true Tryd.f11.params.toList args.toList ds p := hA0
  rw [Tryd.params11] at hA hval
  obtain ⟨v0, vs0, d0, ds0, p0, q0, hargs, rfl, rfl, hx0, r0⟩ := trodAll_cons hA
  obtain ⟨v1, vs1, d1, ds1, p1, q1, rfl, rfl, rfl, hx1, r1⟩ := trodAll_cons r0
  obtain ⟨v2, vs2, d2, ds2, p2, q2, rfl, rfl, rfl, hx2, r2⟩ := trodAll_cons r1
  obtain ⟨rfl, rfl, rfl⟩ := trodAll_nil r2
  obtain rfl : args = #[v0, v1, v2] := by cases args; simp_all
  obtain ⟨rfl, rfl⟩ := trodVars_none hV
  obtain ⟨l, hls, hla⟩ := op_sls (hval 0 25 v0 rfl rfl) (tr_of hx0)
  obtain ⟨n, rfl, hn0, hn1⟩ := op_int (hval 1 3 v1 rfl rfl) (tr_of hx1)
  obtain ⟨zx, zc, z, rfl, hzx, hzs, hza⟩ := op_claim (hval 2 62 v2 rfl rfl) (tr_of hx2)
  refine (walk v0 l n zx hzx zc z hla hza hn0 hn1 W K hls hzs).mono fun e W' ⟨he, hg⟩ => ?_
  subst he
  exact ⟨_, rfl, law_post hW' rfl rfl (by kernel_rfl) rfl rfl rfl hg⟩

theorem laid_met (os : Os) : laidMet Tryd.prog Rows.twinTreeRow.laid ((keysWorld os).forCall (fun _ _ => 0) ⟨#[], #[.slice none 0 0, .int .i64 0, .agg (Array.push (α := Value) (Array.replicate 32 (Value.int IntKind.u8 0)) (Value.slice none 0 0))], []⟩).memory :=
  laidMet_of_run' 8 (by kernel_rfl) (by kernel_rfl)
theorem reads (os : Os) {H : Type} (enc : TypeId × Value → H) : ∃ x, DataW.whole enc Tryd.prog ((keysWorld os).forCall (fun _ _ => 0) ⟨#[], #[.slice none 0 0, .int .i64 0, .agg (Array.push (α := Value) (Array.replicate 32 (Value.int IntKind.u8 0)) (Value.slice none 0 0))], []⟩).memory Tryd.f11.params.toList Rows.twinTreeSpec.vars false (#[.slice none 0 0, .int .i64 0, .agg (Array.push (α := Value) (Array.replicate 32 (Value.int IntKind.u8 0)) (Value.slice none 0 0))] : Array Value).toList 8 = some x :=
  Option.isSome_iff_exists.1 (by kernel_rfl)
set_option maxRecDepth 100000 in
theorem lifted (os : Os) (started : os.Started) (H : Type) (enc : TypeId × Value → H) (F : Stop.Interp) :
    ReturnsInHanded {} Tryd.checked os 11 .any ((OpenSpec.ofChange Rows.twinTreeSpec).preRow enc Tryd.prog Tryd.f11 Rows.twinTreeRow.domain false Rows.twinTreeRow.laid) (((OpenSpec.ofChange Rows.twinTreeSpec).at F).post enc Tryd.prog Tryd.f11 false true false false) := by
  obtain ⟨x, hx⟩ := reads os enc
  refine returnsInHanded_of_row (C := Tryd.checked) (s := OpenSpec.ofChange Rows.twinTreeSpec) own_ started (by kernel_rfl) Tryd.func11
    (witness_row_at (enc := enc) (C := Tryd.checked) false (keysWorld os) #[.slice none 0 0, .int .i64 0, .agg (Array.push (α := Value) (Array.replicate 32 (Value.int IntKind.u8 0)) (Value.slice none 0 0))] rfl (by kernel_rfl) (by kernel_rfl) (by kernel_rfl)
      (OpenSpec.preRow_of_cond 8 hx rfl (fun k hk => by cases hk) (by kernel_rfl) (laid_met os))) ?_
  intro W base args ds gs before hval hW _ _ _ hL _ _
  exact contract H enc W base args ds gs before hval hW hL

theorem said : Rows.TwinTreeSaid :=
  OpenClaim.holds_of_cond 11 Tryd.f11 rfl rfl rfl rfl rfl rfl rfl ⟨rfl, rfl, rfl, rfl, rfl⟩ rfl rfl rfl rfl rfl (by kernel_rfl) Tryd.func11 (by kernel_rfl)
    (of_decide_eq_true (by kernel_rfl)) (by unfold Func.isWrapper; first | (rw [if_pos (by decide +kernel)]; kernel_rfl) | (rw [if_neg (by decide +kernel)]; exact ⟨rfl, rfl⟩))
    (fun os started H enc _ F => by rw [OpenClaim.pre_eq_preRow]; exact lifted os started H enc F)
theorem plain (f : FuncId) (fn : Func) (hf : Tryd.pinned.checked.prog.funcNamed "scrinium/scriniumlaw13.TwinTree" = some f) (hfn : Tryd.pinned.checked.prog.funcs[f]? = some fn) :
    false = Tryd.pinned.checked.prog.looks [] ∧ ∀ (j : Nat) t, fn.params[j]? = some t → Tryd.pinned.checked.prog.wantsStandIn t = false := by
  obtain rfl : f = 11 := Option.some.inj ((show Tryd.prog.funcNamed "scrinium/scriniumlaw13.TwinTree" = some 11 by kernel_rfl).symm.trans hf) |>.symm
  obtain rfl : fn = Tryd.f11 := (Option.some.inj (Tryd.func11.symm.trans hfn)).symm
  refine ⟨by kernel_rfl, fun j t ht => ?_⟩
  rw [Tryd.params11] at ht
  have hm : t ∈ ([25, 3, 62] : List TypeId) := by simpa using Array.mem_of_getElem? ht
  have hall : (([25, 3, 62] : List TypeId).all fun u => !Tryd.prog.wantsStandIn u) = true := by kernel_rfl
  exact (show Tryd.prog.wantsStandIn t = false by simpa using List.all_eq_true.1 hall t hm)
theorem proved : Rows.TwinTreeCardSaid :=
  Claim7.holds_tied_plain_at .later [] _ _ _ _ said (fun _ h => by cases h) (by kernel_rfl) (fun _ h => by cases h) twinTree_row_tie rfl ⟨rfl, rfl⟩ (by kernel_rfl) rfl plain (by kernel_rfl)

end Go.Proofs.YtfpipdopgepelaaDoor.twinTree
