/-
  LeafRight of cites, both sides.
  cite.LeafRight.
  Right of cites, both sides.
  Rows of freezes; the document's Super.
  Rows of records; freezes and cites built; the plain cite of a world.
  The law's cited: the cite of a world's record.
  The walk of the law's cited.
  The walk of the law's cited where there is no record.
  The plain law of a world's cite; worlds as arguments.
  The law's met: two ways that come to one hash.
  The plain law of two right cites of one place; records compared; a cite with a record as an argument.
  What the law CiteTells needs: a turn as an argument, a hash stored at the head of a row, the cited in either case.
-/
import Derived.Test.YtcgnjdkennkheaaGreatDoorCiteM
import Derived.Test.YtcgnjdkennkheaaGreatDoorRefPM
import Derived.Test.YtcgnjdkennkheaaGreatDoorRecM
import Derived.Test.YtcgnjdkennkheaaGreatDoorSealVM
import Derived.Deep.DeepCutAuto
import Derived.Deep.CutBlock
set_option linter.unusedVariables false
set_option maxRecDepth 100000
set_option linter.unusedSimpArgs false
set_option linter.unusedSectionVars false
namespace Go.Proofs.YtcgnjdkennkheaaGreatDoor
open Go.RowKit
open Seal (Fz Hd St Ct)
attribute [local go_sem] bs_size bs_toList2 bs_append bs_extract_end bs_extract_begin bs_get wrap64_b grow_cell grow_frozen

set_option maxHeartbeats 1000000 in
theorem refRight_calls (root leaf : List UInt8) (hr : root.length = 32) (hf : leaf.length = 32) (m n : Int) (A : Option Addr) (cap : Nat) (l : List (List UInt8)) (hl : AllH l) (hll : l.length ≤ 1000000) (w : World) (hrd : Rd w w.heap.size A (flatS l)) :
    Calls Tryz.prog 51 #[sumV root, sumV leaf, .int .i64 m, .int .i64 n, .slice A l.length cap] w fun e w' => e = .returned (.bool (rightB root leaf m n l)) ∧ Ext w w' := by
  unfold rightB
  have hpl := foldP_length leaf hf m n l
  obtain ⟨p, hp⟩ : ∃ p, p = foldP leaf m n l := ⟨_, rfl⟩
  rw [← hp] at hpl ⊢
  have Hp := Lib.hid hp
  clear hp
  obtain ⟨y, ok⟩ := p
  have hfoldr := fold_sum root hr
  have hfoldf := fold_sum leaf hf
  have hgw := guard_sum
  have heq1 := fun w : World => eq_sum y root hpl hr w
  unfold sumV
  go_enter Tryz.func51, Tryz.ntmps51
  have hX0 : ArrB ((w.alloc (.cells (root.map byteV).toArray 28)).alloc (.cells (leaf.map byteV).toArray 28)) w.heap.size 28 root := Blk.alloc (Blk.new _ _ _) _
  have hL0 : ArrB ((w.alloc (.cells (root.map byteV).toArray 28)).alloc (.cells (leaf.map byteV).toArray 28)) (w.heap.size + 1) 28 leaf := by
    have := Blk.new (w.alloc (.cells (root.map byteV).toArray 28)) 28 (leaf.map byteV).toArray
    rw [alloc_size] at this
    exact this
  have hE0 : Ext w ((w.alloc (.cells (root.map byteV).toArray 28)).alloc (.cells (leaf.map byteV).toArray 28)) := ((Ext.refl w).alloc _).alloc _
  go_wp2_with (refine stop_load 28 (.tmp 6) rfl ?_)
  refine ⟨?_⟩
  refine wpList_load_row rfl 28 (.tmp 6) rfl (w.heap.size + 1) (by rfl) 28 _ (0, 0) _ hL0 Tryz.underlying28 rfl (size32.trans (by simp [hf])) ?_
  simp only [Act.put, List.setIfInBounds_toArray, List.set_cons_zero, List.set_cons_succ]
  generalize (w.alloc (.cells (root.map byteV).toArray 28)).alloc (.cells (leaf.map byteV).toArray 28) = w1 at *
  go_wp2_with fail
  change Calls _ _ #[sumV leaf, _, _, _] _ _
  refine (refFold_calls leaf hf m n A cap l hl hll _ ((hrd.below hE0 (Nat.le_refl _)).more hE0.size)).mono ?_; rw [← Hp.out]; rintro e w2 ⟨rfl, e2⟩
  have hX2 := Blk.below hX0 e2 (Blk.lt hX0)
  have hE2 := hE0.trans e2
  clear hX0 hL0 hE0 e2
  unfold sumV
  go_wp2_with (refine stop_store 28 (.tmp 11) (.tmp 19) rfl ?_)
  refine ⟨?_⟩
  change wpList _ _ _ _ _ (w2.alloc (.cells ((zerosB 32).map byteV).toArray 28))
  have hY0 : ArrB (w2.alloc (.cells ((zerosB 32).map byteV).toArray 28)) w2.heap.size 28 (zerosB 32) := Blk.new _ _ _
  refine wpList_store_row rfl 28 (.tmp 11) (.tmp 19) rfl w2.heap.size ((y).map byteV).toArray (by rfl) (by rfl) 28 _ hY0 (size32.trans (by simp [hpl])) (by simp [hpl, zerosB]) (by simp [byteV, Value.oneCell']) ?_
  simp only [Act.put, List.setIfInBounds_toArray, List.set_cons_zero, List.set_cons_succ]
  have hY : ArrB ((w2.alloc (.cells ((zerosB 32).map byteV).toArray 28)).setRow w2.heap.size ((y).map byteV).toArray) w2.heap.size 28 (y) := Blk.row hY0 _
  have e3 : Ext w2 ((w2.alloc (.cells ((zerosB 32).map byteV).toArray 28)).setRow w2.heap.size ((y).map byteV).toArray) := ((Ext.refl w2).alloc _).row (Nat.le_refl _) _
  clear hY0
  generalize (w2.alloc (.cells ((zerosB 32).map byteV).toArray 28)).setRow w2.heap.size ((y).map byteV).toArray = w3 at *
  have hX3 := Blk.below hX2 e3 (Blk.lt hX2)
  have hE3 := hE2.trans e3
  have hyl := hE2.size
  clear hX2 hE2 e3
  generalize w2.heap.size = gy at *
  cases ok
  · go_wp2_with fail
    go_ret
    exact ⟨rfl, hE3⟩
  · skip
    go_wp2_with (refine stop_load 28 (.tmp 11) rfl ?_)
    refine ⟨?_⟩
    refine list_want (by rfl) (fun K hK => ?_)
    refine wp_load_row 28 (.tmp 11) rfl gy (by rfl) 28 _ (0, 0) _ hY Tryz.underlying28 rfl (size32.trans (by simp [hpl])) ?_
    refine hK _ _ ?_; clear hK K
    simp only [Act.put, List.setIfInBounds_toArray, List.set_cons_zero, List.set_cons_succ]
    go_wp2_with (refine stop_load 28 (.tmp 5) rfl ?_)
    refine ⟨?_⟩
    refine list_want (by rfl) (fun K hK => ?_)
    refine wp_load_row 28 (.tmp 5) rfl w.heap.size (by rfl) 28 _ (0, 0) _ hX3 Tryz.underlying28 rfl (size32.trans (by simp [hr])) ?_
    refine hK _ _ ?_; clear hK K
    simp only [Act.put, List.setIfInBounds_toArray, List.set_cons_zero, List.set_cons_succ]
    go_wp2_with fail
    go_ret
    exact ⟨by simp, hE3⟩

theorem refRight_sls (root leaf : List UInt8) (hr : root.length = 32) (hf : leaf.length = 32) (m n : Int) (v : Value) (l : List (List UInt8)) (hl : AllH l) (hll : l.length ≤ 1000000) (w : World) (h : SlS w w.heap.size v l) :
    Calls Tryz.prog 51 #[sumV root, sumV leaf, .int .i64 m, .int .i64 n, v] w fun e w' => e = .returned (.bool (rightB root leaf m n l)) ∧ Ext w w' := by
  obtain ⟨A, cap, rfl, hA0, hc, hc63, hr'⟩ := h
  exact refRight_calls root leaf hr hf m n A cap l hl hll w hr'
/-- What LeafRight tells. -/
def baseB (win : Int) (c : Ct) : Bool := decide (c.fz.may) && decide (c.fz.win = win)
def shardB (idx : Int) (x : List UInt8) (c : Ct) : Bool := rightB c.fz.root x idx c.fz.cnt c.path
def superB (c : Ct) : Bool := rightB c.hd.root (leafB c.fz.outB) c.place c.hd.size c.super
def leafRightB (key : List UInt8) (win idx : Int) (x : List UInt8) (c : Ct) : Bool := baseB win c && shardB idx x c && superB c && c.hd.rightB key
/-- What fits an argument. -/
def fitC (c : Ct) : Prop := c.ok ∧ c.fz.cnt ≤ 9223372036854775807 ∧ c.hd.size ≤ 9223372036854775807 ∧ c.path.length ≤ 1000000 ∧ c.super.length ≤ 1000000
theorem CiteAt.fld {w : World} {g : Nat} {f : Fz} {p q : Value} {pl : Int} {h : Hd} (k : CiteAt w g f p pl q h) : w.cell? ⟨g, 0, none⟩ = some (.int .i64 f.win) ∧ w.cell? ⟨g, 1, none⟩ = some (.int .i64 f.cnt) ∧ w.rangeAt g 2 (hcells f.root) := by
  refine ⟨?_, ?_, ?_⟩
  · have := Blk.cell k 0; simpa [citeC, Seal.Fz.cells] using this
  · have := Blk.cell k 1; simpa [citeC, Seal.Fz.cells] using this
  · have := Blk.range (w := w) (g := g) (t := 34) (pre := [.int .i64 f.win, .int .i64 f.cnt]) (mid := hcells f.root) (post := p :: .int .i64 pl :: q :: h.cells) (by simpa [CiteAt, citeC, Seal.Fz.cells] using k) 2 rfl
    exact this
theorem CiteAt.hfl {w : World} {g : Nat} {f : Fz} {p q : Value} {pl : Int} {h : Hd} (k : CiteAt w g f p pl q h) (hr : f.root.length = 32) : w.cell? ⟨g, 37, none⟩ = some (.int .i64 h.size) ∧ w.rangeAt g 38 (hcells h.root) := by
  refine ⟨?_, ?_⟩
  · have := k.head hr 0 (.int .i64 h.size) (by simp [Seal.Hd.cells])
    simpa using this
  · have := Blk.range (w := w) (g := g) (t := 34) (pre := f.cells ++ [p, .int .i64 pl, q, .int .i64 h.size]) (mid := hcells h.root) (post := [Value.int .i64 h.clock] ++ (hcells h.mac ++ [])) (by simpa [CiteAt, citeC, Seal.Hd.cells] using k) 38 (by simp [fz_cells hr])
    exact this

set_option maxHeartbeats 4000000 in
theorem cfLeafRight_calls (key : List UInt8) (hk : key.length ≤ 4611686018427387904) (win idx : Int) (x : List UInt8) (hx : x.length = 32) (c : Ct) (hc : fitC c) (P Q : Value) (w : World) (hP : SlS w w.heap.size P c.path) (hQ : SlS w w.heap.size Q c.super) :
    Calls Tryz.prog 19 #[.string (bs key), .int .i64 win, .int .i64 idx, sumV x, citeV c.fz P c.place Q c.hd] w fun e w' => e = .returned (.bool (leafRightB key win idx x c)) ∧ Ext w w' := by
  have hX : ArrB ((w.alloc (.cells (x.map byteV).toArray 28)).alloc (.cells (citeC c.fz P c.place Q c.hd).toArray 34)) w.heap.size 28 x := Blk.alloc (Blk.new w _ _) _
  have hB : CiteAt ((w.alloc (.cells (x.map byteV).toArray 28)).alloc (.cells (citeC c.fz P c.place Q c.hd).toArray 34)) (w.heap.size + 1) c.fz P c.place Q c.hd := by
    have := Blk.new (w.alloc (.cells (x.map byteV).toArray 28)) 34 (citeC c.fz P c.place Q c.hd).toArray
    rw [alloc_size] at this
    exact this
  have hE : Ext w ((w.alloc (.cells (x.map byteV).toArray 28)).alloc (.cells (citeC c.fz P c.place Q c.hd).toArray 34)) := ((Ext.refl w).alloc _).alloc _
  obtain ⟨⟨r1, r2, r3, r4, r5⟩, -, -, l1, l2⟩ := hc
  obtain ⟨res, hres⟩ : ∃ r, r = leafRightB key win idx x c := ⟨_, rfl⟩
  rw [← hres]
  unfold leafRightB baseB at hres
  have HFB := fun w => refFreezeBytes_calls c.fz r1 w
  have HS := fun P w h => refRight_sls c.fz.root x r1 hx idx c.fz.cnt P c.path r4 l1 w h
  have HFL := fun w => refFreezeLeaf_calls c.fz r1 w
  have hll : (leafB c.fz.outB).length = 32 := leafB_length _
  have HU := fun P w h => refRight_sls c.hd.root (leafB c.fz.outB) r2 hll c.place c.hd.size P c.super r5 l2 w h
  have HH := fun w => refHeadRight_calls key hk c.hd r2 r3 w
  unfold shardB superB at hres
  have hoe : c.fz.outE = if c.fz.may then 0 else 1 := by
    by_cases h : c.fz.may
    · rw [(Seal.Fz.out_ok c.fz h).2, if_pos h]
    · rw [(Seal.Fz.out_no c.fz h).2, if_neg h]
  have hfe : (c.fz.outE == 0) = decide c.fz.may := by
    rw [hoe]
    by_cases h : c.fz.may <;> simp [h]
  rw [← hfe] at hres
  clear hfe hoe
  generalize c.fz.outE = fe at *
  generalize c.fz.outB = fb at *
  generalize rightB c.fz.root x idx c.fz.cnt c.path = d1 at *
  generalize rightB c.hd.root (leafB fb) c.place c.hd.size c.super = d2 at *
  generalize c.hd.rightB key = d3 at *
  generalize leafB fb = lf at *
  have H1 := Lib.hid HFB; have H2 := Lib.hid HS; have H3 := Lib.hid HFL; have H4 := Lib.hid HU; have H5 := Lib.hid HH; have H6 := Lib.hid hres
  clear HFB HS HFL HU HH hres
  unfold citeV sumV
  go_enter Tryz.func19, Tryz.ntmps19
  go_wp2_with (refine stop_load 30 (.tmp 17) rfl ?_)
  refine ⟨?_⟩
  change wpList _ _ _ _ _ ((w.alloc (.cells (x.map byteV).toArray 28)).alloc (.cells (citeC c.fz P c.place Q c.hd).toArray 34))
  generalize ((w.alloc (.cells (x.map byteV).toArray 28)).alloc (.cells (citeC c.fz P c.place Q c.hd).toArray 34)) = w0 at *
  refine wpList_load_mid rfl 30 (.tmp 17) rfl (w.heap.size + 1) 0 (by rfl) (c.fz.cells) _ hB.fz Tryz.underlying30 rfl ((Seal.size_fz c.fz r1).trans (by rw [List.size_toArray])) ?_
  simp only [Act.put, List.setIfInBounds_toArray, List.set_cons_zero, List.set_cons_succ]
  go_wp2_with fail
  change Calls _ _ #[c.fz.v] _ _
  refine (H1.out _).mono ?_; rintro e w1 ⟨rfl, e1⟩
  replace hX := Blk.below hX e1 (Blk.lt hX)
  replace hB := hB.ext e1
  replace hE := hE.trans e1
  clear e1
  obtain ⟨k0, k1, k2⟩ := hB.fld
  have kp := hB.path r1 0 _ rfl
  go_wp2_with (refine stop_load 28 (.tmp 23) rfl ?_)
  refine ⟨?_⟩
  refine wpList_load_mid rfl 28 (.tmp 23) rfl (w.heap.size + 1) (2) (by rfl) (hcells c.fz.root) _ k2 Tryz.underlying28 rfl (size32l _ r1) ?_
  simp only [Act.put, List.setIfInBounds_toArray, List.set_cons_zero, List.set_cons_succ]
  unfold hcells
  go_wp2_with (refine stop_load 28 (.tmp 8) rfl ?_)
  refine ⟨?_⟩
  refine wpList_load_row rfl 28 (.tmp 8) rfl w.heap.size (by rfl) 28 _ (0, 0) _ hX Tryz.underlying28 rfl (size32.trans (by simp [hx])) ?_
  simp only [Act.put, List.setIfInBounds_toArray, List.set_cons_zero, List.set_cons_succ]
  go_wp2_with fail
  change Calls _ _ #[sumV c.fz.root, sumV x, _, _, _] _ _
  refine (H2.out P _ (hP.ext hE)).mono ?_; rintro e w2 ⟨rfl, e2⟩
  replace hB := hB.ext e2
  replace hE := hE.trans e2
  clear e2 k0 k1 k2 kp hX
  obtain ⟨j0, j1⟩ := hB.hfl r1
  have jp := hB.place r1 0 _ rfl
  have js := hB.super r1 0 _ rfl
  have jf := hB.fz
  have hlt := hB.lt
  go_wp2_with fail
  have hQx : ∀ z : More w2, SlS (grow w2 z) (grow w2 z).heap.size Q c.super := fun z => (hQ.ext hE).ext (grow_ext z)
  refine region_mix0 (by kernel_rfl) (by kernel_rfl) (fun z0 => ?_)
  iterate 2 (first | (refine mix_quiet (by rfl) (by rfl) (fun K hK => ?_); go_big_quiet_op; refine hK _ ?_; clear hK K) | (refine mix_skip (by rfl) ?_; simp only [Act.put, List.setIfInBounds_toArray, List.set_cons_zero, List.set_cons_succ]))
  refine mix_mid (by rfl) (by rfl) 28 (.tmp 34) rfl (w.heap.size + 1) 38 (by rfl) (hcells c.hd.root) _ j1 hlt Tryz.underlying28 rfl (size32l _ r2) ?_
  simp only [Act.put, List.setIfInBounds_toArray, List.set_cons_zero, List.set_cons_succ]
  iterate 1 (first | (refine mix_quiet (by rfl) (by rfl) (fun K hK => ?_); go_big_quiet_op; refine hK _ ?_; clear hK K) | (refine mix_skip (by rfl) ?_; simp only [Act.put, List.setIfInBounds_toArray, List.set_cons_zero, List.set_cons_succ]))
  refine mix_mid (by rfl) (by rfl) 30 (.tmp 36) rfl (w.heap.size + 1) 0 (by rfl) (c.fz.cells) _ jf hlt Tryz.underlying30 rfl ((Seal.size_fz c.fz r1).trans (by rw [List.size_toArray])) ?_
  simp only [Act.put, List.setIfInBounds_toArray, List.set_cons_zero, List.set_cons_succ]
  (refine mix_loud (by rfl) (by rfl) (fun K E hK => ?_); go_big_op)
  change Calls _ _ #[c.fz.v] _ _
  refine (H3.out _).mono ?_; rintro e w3 ⟨rfl, hd⟩
  obtain ⟨x1, rfl⟩ := more_ext z0 hd
  refine hK _ _ ⟨_, rfl⟩ ?_; clear hK K E hd
  unfold hcells
  repeat (first | (refine mix_quiet (by rfl) (by rfl) (fun K hK => ?_); go_big_quiet_op; refine hK _ ?_; clear hK K) | (refine mix_skip (by rfl) ?_; simp only [Act.put, List.setIfInBounds_toArray, List.set_cons_zero, List.set_cons_succ]))
  (refine mix_loud (by rfl) (by rfl) (fun K E hK => ?_); go_big_op)
  change Calls _ _ #[sumV c.hd.root, sumV lf, _, _, _] _ _
  refine (H4.out Q _ (hQx _)).mono ?_; rintro e w3 ⟨rfl, hd⟩
  obtain ⟨x2, rfl⟩ := more_ext x1 hd
  refine hK _ _ ⟨_, rfl⟩ ?_; clear hK K E hd
  repeat (first | (refine mix_quiet (by rfl) (by rfl) (fun K hK => ?_); go_big_quiet_op; refine hK _ ?_; clear hK K) | (refine mix_skip (by rfl) ?_; simp only [Act.put, List.setIfInBounds_toArray, List.set_cons_zero, List.set_cons_succ]))
  refine mix_nil ?_
  have e3 := grow_ext x2
  generalize grow w2 x2 = w3 at *
  replace hB := hB.ext e3
  replace hE := hE.trans e3
  clear e3 hQx j0 j1 jp js jf hlt
  go_wp2_with (refine stop_load 32 (.tmp 48) rfl ?_)
  refine ⟨?_⟩
  refine wpList_load_mid rfl 32 (.tmp 48) rfl (w.heap.size + 1) 37 (by rfl) (c.hd.cells) _ (hB.head r1) Tryz.underlying32 rfl ((Seal.size_hd c.hd r2 r3).trans (by rw [List.size_toArray])) ?_
  simp only [Act.put, List.setIfInBounds_toArray, List.set_cons_zero, List.set_cons_succ]
  go_wp2_with fail
  change Calls _ _ #[_, c.hd.v] _ _
  refine (H5.out _).mono ?_; rintro e w4 ⟨rfl, e4⟩
  replace hB := hB.ext e4
  replace hE := hE.trans e4
  clear e4
  obtain ⟨k0, -, -⟩ := hB.fld
  have hfin : res = ((fe == 0) && decide (c.fz.win = win) && d1 && d2 && d3) := H6.out
  have Hfin := Lib.hid hfin
  clear hfin
  by_cases c1 : fe = 0
  · have b1 : (fe == 0) = true := by simp [c1]
    by_cases c2 : c.fz.win = win
    · have b2 : (c.fz.win == win) = true := by simp [c2]
      have b3 : decide (c.fz.win = win) = true := by simp [c2]
      have Hb : res = (d1 && d2 && d3) := by rw [Hfin.out, b1, b3]; simp
      have HB2 := Lib.hid Hb
      clear c1 c2 Hb
      cases d1 <;> cases d2 <;> cases d3
      all_goals
        go_wp2_with fail
        go_ret
        exact ⟨by rw [HB2.out]; rfl, hE⟩
    · have b2 : (c.fz.win == win) = false := by simp [c2]
      have b3 : decide (c.fz.win = win) = false := by simp [c2]
      have Hb : res = false := by rw [Hfin.out, b1, b3]; simp
      have HB2 := Lib.hid Hb
      clear c1 c2 Hb
      go_wp2_with fail
      go_ret
      exact ⟨by rw [HB2.out]; rfl, hE⟩
  · have b1 : (fe == 0) = false := by simp [c1]
    have Hb : res = false := by rw [Hfin.out, b1]; simp
    have HB2 := Lib.hid Hb
    clear c1 Hb
    go_wp2_with fail
    go_ret
    exact ⟨by rw [HB2.out]; rfl, hE⟩

end Go.Proofs.YtcgnjdkennkheaaGreatDoor

namespace Go.Proofs.YtcgnjdkennkheaaGreatDoor
open Go.RowKit
open Seal (Fz Hd St Ct)
attribute [local go_sem] bs_size bs_toList2 bs_append bs_extract_end bs_extract_begin bs_get wrap64_b grow_cell grow_frozen


def accB (b0 d1 d2 d3 : Bool) : Nat → Bool
  | 0 => b0
  | 1 => b0 && d1
  | 2 => b0 && d1 && d2
  | _ => b0 && d1 && d2 && d3
theorem acc_no (b0 d1 d2 d3 : Bool) (k : Nat) (h : accB b0 d1 d2 d3 k = false) : (b0 && d1 && d2 && d3) = false := by
  match k with
  | 0 => simp [accB] at h; simp [h]
  | 1 => cases b0 <;> cases d1 <;> simp_all [accB]
  | 2 => cases b0 <;> cases d1 <;> cases d2 <;> simp_all [accB]
  | k + 3 => simpa [accB] using h
set_option maxHeartbeats 4000000 in
theorem ctLeafRight_calls (key : List UInt8) (hk : key.length ≤ 4611686018427387904) (win idx : Int) (x : List UInt8) (hx : x.length = 32) (c : Ct) (hc : fitC c) (P Q : Value) (w : World) (KW : Keys w) (hP : SlS w w.heap.size P c.path) (hQ : SlS w w.heap.size Q c.super) :
    Calls Tryz.prog 14 #[.string (bs key), .int .i64 win, .int .i64 idx, sumV x, citeV c.fz P c.place Q c.hd] w fun e w' => e = .returned (.bool (leafRightB key win idx x c)) ∧ Ext w w' := by
  have hX : ArrB ((w.alloc (.cells (x.map byteV).toArray 28)).alloc (.cells (citeC c.fz P c.place Q c.hd).toArray 34)) w.heap.size 28 x := Blk.alloc (Blk.new w _ _) _
  have hB : CiteAt ((w.alloc (.cells (x.map byteV).toArray 28)).alloc (.cells (citeC c.fz P c.place Q c.hd).toArray 34)) (w.heap.size + 1) c.fz P c.place Q c.hd := by
    have := Blk.new (w.alloc (.cells (x.map byteV).toArray 28)) 34 (citeC c.fz P c.place Q c.hd).toArray
    rw [alloc_size] at this
    exact this
  have hE : Ext w ((w.alloc (.cells (x.map byteV).toArray 28)).alloc (.cells (citeC c.fz P c.place Q c.hd).toArray 34)) := ((Ext.refl w).alloc _).alloc _
  obtain ⟨⟨r1, r2, r3, r4, r5⟩, f1, f2, l1, l2⟩ := hc
  obtain ⟨res, hres⟩ : ∃ r, r = leafRightB key win idx x c := ⟨_, rfl⟩
  rw [← hres]
  unfold leafRightB baseB at hres
  have HFB := fun w => FreezeBytes_calls c.fz r1 w
  have HS := fun P w KW h => Right_sls c.fz.root x r1 hx idx c.fz.cnt f1 P c.path r4 l1 w KW h
  have HFL := fun w KW => FreezeLeaf_calls c.fz r1 w KW
  have hll : (leafB c.fz.outB).length = 32 := leafB_length _
  have HU := fun P w KW h => Right_sls c.hd.root (leafB c.fz.outB) r2 hll c.place c.hd.size f2 P c.super r5 l2 w KW h
  have HH := fun w KW => HeadRight_calls key hk c.hd r2 r3 w KW
  unfold shardB superB at hres
  have hoe : c.fz.outE = if c.fz.may then 0 else 1 := by
    by_cases h : c.fz.may
    · rw [(Seal.Fz.out_ok c.fz h).2, if_pos h]
    · rw [(Seal.Fz.out_no c.fz h).2, if_neg h]
  have hfe : (c.fz.outE == 0) = decide c.fz.may := by
    rw [hoe]
    by_cases h : c.fz.may <;> simp [h]
  rw [← hfe] at hres
  clear hfe hoe
  generalize c.fz.outE = fe at *
  generalize c.fz.outB = fb at *
  generalize rightB c.fz.root x idx c.fz.cnt c.path = d1 at *
  generalize rightB c.hd.root (leafB fb) c.place c.hd.size c.super = d2 at *
  generalize c.hd.rightB key = d3 at *
  generalize leafB fb = lf at *
  have hw0 : (c.fz.win == win) = decide (c.fz.win = win) := by
    by_cases h : c.fz.win = win <;> simp [h]
  obtain ⟨b0, hb0⟩ : ∃ b, b = ((fe == 0) && decide (c.fz.win = win)) := ⟨_, rfl⟩
  rw [← hb0] at hres
  have H1 := Lib.hid HFB; have H2 := Lib.hid HS; have H3 := Lib.hid HFL; have H4 := Lib.hid HU; have H5 := Lib.hid HH; have H6 := Lib.hid hres; have H7 := Lib.hid hb0; have H8 := Lib.hid hw0
  clear HFB HS HFL HU HH hres hb0 hw0
  unfold citeV sumV
  go_enter Tryz.func14, Tryz.ntmps14
  go_wp2_with fail
  go_step3
  go_wp2_with (refine stop_load 30 (.tmp 16) rfl ?_)
  refine ⟨?_⟩
  change wpList _ _ _ _ _ ((w.alloc (.cells (x.map byteV).toArray 28)).alloc (.cells (citeC c.fz P c.place Q c.hd).toArray 34))
  generalize ((w.alloc (.cells (x.map byteV).toArray 28)).alloc (.cells (citeC c.fz P c.place Q c.hd).toArray 34)) = w0 at *
  refine wpList_load_mid rfl 30 (.tmp 16) rfl (w.heap.size + 1) 0 (by rfl) (c.fz.cells) _ hB.fz Tryz.underlying30 rfl ((Seal.size_fz c.fz r1).trans (by rw [List.size_toArray])) ?_
  simp only [Act.put, List.setIfInBounds_toArray, List.set_cons_zero, List.set_cons_succ]
  go_wp2_with fail
  change Calls _ _ #[c.fz.v] _ _
  refine (H1.out _).mono ?_; rintro e w1 ⟨rfl, e1⟩
  replace hX := Blk.below hX e1 (Blk.lt hX)
  replace hB := hB.ext e1
  replace hE := hE.trans e1
  clear e1
  obtain ⟨k0, -, -⟩ := hB.fld
  have fin0 : ∀ b : Bool, b = b0 → b = ((fe == 0) && decide (c.fz.win = win)) := fun b h => h.trans H7.out
  clear fin0
  by_cases c1 : fe = 0
  · have b1 : (fe == 0) = true := by simp [c1]
    by_cases c2 : c.fz.win = win
    · have b2 : (c.fz.win == win) = true := by simp [c2]
      have hb : b0 = true := by rw [H7.out, b1]; simp [c2]
      have b3 : decide (c.fz.win = win) = true := by simp [c2]
      clear c1 c2
      have HB0 := Lib.hid hb; clear hb
      go_wp2_with fail
      go_step3
      go_wp2_with fail
      go_loopw [13, 30] (fun s13 s30 wr => ∃ k : Nat, k ≤ 3 ∧ s30 = .int .i64 (k : Int) ∧ s13 = .bool (accB b0 d1 d2 d3 k) ∧ ArrB wr w.heap.size 28 x ∧ CiteAt wr (w.heap.size + 1) c.fz P c.place Q c.hd ∧ Ext w wr) (fun _ s30 _ => 3 - (intOf s30).toNat)
      case atStart => exact ⟨0, by omega, rfl, by rw [accB, HB0.out], hX, hB, hE⟩
      case round =>
        clear hX hB hE k0 b1 HB0 H7 H8 H1
        obtain ⟨wo, rfl⟩ : ∃ wo : World, wo = wr := ⟨_, rfl⟩
        obtain ⟨k, hk, rfl, rfl, hX, hB, hE⟩ := hrel
        by_cases hlt : k < 3
        · have hlI : (k : Int) < 3 := by omega
          cases hacc : accB b0 d1 d2 d3 k
          · have hres := H6.out.trans (acc_no b0 d1 d2 d3 k hacc)
            have HR := Lib.hid hres
            clear hacc hres
            go_wp2_with fail
            (try rw [Exit.noGoto_ret])
            go_ret
            exact ⟨by rw [HR.out]; rfl, hE⟩
          · rcases (show k = 0 ∨ k = 1 ∨ k = 2 by omega) with rfl | rfl | rfl
            · have ha : accB b0 d1 d2 d3 1 = d1 := by
                simp only [accB] at hacc ⊢
                rw [hacc, Bool.true_and]
              have Ha := Lib.hid ha
              clear ha hacc
              obtain ⟨k0, k1, k2⟩ := hB.fld
              have kp := hB.path r1 0 _ rfl
              rw [show ((0 : Nat) : Int) = 0 from rfl]
              go_wp2_with (refine stop_load 28 (.tmp 39) rfl ?_)
              refine ⟨?_⟩
              refine wpList_load_mid rfl 28 (.tmp 39) rfl (w.heap.size + 1) (2) (by rfl) (hcells c.fz.root) _ k2 Tryz.underlying28 rfl (size32l _ r1) ?_
              simp only [Act.put, List.setIfInBounds_toArray, List.set_cons_zero, List.set_cons_succ]
              unfold hcells
              go_wp2_with (refine stop_load 28 (.tmp 8) rfl ?_)
              refine ⟨?_⟩
              refine wpList_load_row rfl 28 (.tmp 8) rfl w.heap.size (by rfl) 28 _ (0, 0) _ hX Tryz.underlying28 rfl (size32.trans (by simp [hx])) ?_
              simp only [Act.put, List.setIfInBounds_toArray, List.set_cons_zero, List.set_cons_succ]
              go_wp2_with fail
              change Calls _ _ #[sumV c.fz.root, sumV x, _, _, _] _ _
              refine (H2.out P _ (KW.ext hE) (hP.ext hE)).mono ?_; rintro e w2 ⟨rfl, e2⟩
              clear k0 k1 k2 kp
              replace hX := Blk.below hX e2 (Blk.lt hX)
              replace hB := hB.ext e2
              replace hE := hE.trans e2
              go_wp2_with fail
              go_roundw
              case rel => exact ⟨1, by omega, rfl, by rw [Ha.out], hX, hB, hE⟩
              case measure => simp [intOf]
            · have ha : accB b0 d1 d2 d3 2 = d2 := by
                simp only [accB] at hacc ⊢
                rw [hacc, Bool.true_and]
              have Ha := Lib.hid ha
              clear ha hacc
              obtain ⟨j0, j1⟩ := hB.hfl r1
              have jp := hB.place r1 0 _ rfl
              have js := hB.super r1 0 _ rfl
              have jf := hB.fz
              have hlt := hB.lt
              rw [show ((1 : Nat) : Int) = 1 from rfl]
              go_wp2_with fail
              have hQx : ∀ z : More wo, SlS (grow wo z) (grow wo z).heap.size Q c.super := fun z => (hQ.ext hE).ext (grow_ext z)
              have hKx : ∀ z : More wo, Keys (grow wo z) := fun z => (KW.ext hE).ext (grow_ext z)
              refine region_mix0 (by kernel_rfl) (by kernel_rfl) (fun z0 => ?_)
              iterate 2 (first | (refine mix_quiet (by rfl) (by rfl) (fun K hK => ?_); go_big_quiet_op; refine hK _ ?_; clear hK K) | (refine mix_skip (by rfl) ?_; simp only [Act.put, List.setIfInBounds_toArray, List.set_cons_zero, List.set_cons_succ]))
              refine mix_mid (by rfl) (by rfl) 28 (.tmp 52) rfl (w.heap.size + 1) 38 (by rfl) (hcells c.hd.root) _ j1 hlt Tryz.underlying28 rfl (size32l _ r2) ?_
              simp only [Act.put, List.setIfInBounds_toArray, List.set_cons_zero, List.set_cons_succ]
              iterate 1 (first | (refine mix_quiet (by rfl) (by rfl) (fun K hK => ?_); go_big_quiet_op; refine hK _ ?_; clear hK K) | (refine mix_skip (by rfl) ?_; simp only [Act.put, List.setIfInBounds_toArray, List.set_cons_zero, List.set_cons_succ]))
              refine mix_mid (by rfl) (by rfl) 30 (.tmp 54) rfl (w.heap.size + 1) 0 (by rfl) (c.fz.cells) _ jf hlt Tryz.underlying30 rfl ((Seal.size_fz c.fz r1).trans (by rw [List.size_toArray])) ?_
              simp only [Act.put, List.setIfInBounds_toArray, List.set_cons_zero, List.set_cons_succ]
              (refine mix_loud (by rfl) (by rfl) (fun K E hK => ?_); go_big_op)
              change Calls _ _ #[c.fz.v] _ _
              refine (H3.out _ (hKx _)).mono ?_; rintro e w3 ⟨rfl, hd⟩
              obtain ⟨x1, rfl⟩ := more_ext z0 hd
              refine hK _ _ ⟨_, rfl⟩ ?_; clear hK K E hd
              unfold hcells
              repeat (first | (refine mix_quiet (by rfl) (by rfl) (fun K hK => ?_); go_big_quiet_op; refine hK _ ?_; clear hK K) | (refine mix_skip (by rfl) ?_; simp only [Act.put, List.setIfInBounds_toArray, List.set_cons_zero, List.set_cons_succ]))
              (refine mix_loud (by rfl) (by rfl) (fun K E hK => ?_); go_big_op)
              change Calls _ _ #[sumV c.hd.root, sumV lf, _, _, _] _ _
              refine (H4.out Q _ (hKx _) (hQx _)).mono ?_; rintro e w3 ⟨rfl, hd⟩
              obtain ⟨x2, rfl⟩ := more_ext x1 hd
              refine hK _ _ ⟨_, rfl⟩ ?_; clear hK K E hd
              repeat (first | (refine mix_quiet (by rfl) (by rfl) (fun K hK => ?_); go_big_quiet_op; refine hK _ ?_; clear hK K) | (refine mix_skip (by rfl) ?_; simp only [Act.put, List.setIfInBounds_toArray, List.set_cons_zero, List.set_cons_succ]))
              refine mix_nil ?_
              have e3 := grow_ext x2
              generalize grow wo x2 = w3 at *
              replace hX := Blk.below hX e3 (Blk.lt hX)
              replace hB := hB.ext e3
              replace hE := hE.trans e3
              clear e3 hQx hKx j0 j1 jp js jf hlt
              go_wp2_with fail
              go_roundw
              case rel => exact ⟨2, by omega, rfl, by rw [Ha.out], hX, hB, hE⟩
              case measure => simp [intOf]
            · have ha : accB b0 d1 d2 d3 3 = d3 := by
                simp only [accB] at hacc ⊢
                rw [hacc, Bool.true_and]
              have Ha := Lib.hid ha
              clear ha hacc
              rw [show ((2 : Nat) : Int) = 2 from rfl]
              go_wp2_with (refine stop_load 32 (.tmp 68) rfl ?_)
              refine ⟨?_⟩
              refine wpList_load_mid rfl 32 (.tmp 68) rfl (w.heap.size + 1) 37 (by rfl) (c.hd.cells) _ (hB.head r1) Tryz.underlying32 rfl ((Seal.size_hd c.hd r2 r3).trans (by rw [List.size_toArray])) ?_
              simp only [Act.put, List.setIfInBounds_toArray, List.set_cons_zero, List.set_cons_succ]
              go_wp2_with fail
              change Calls _ _ #[_, c.hd.v] _ _
              refine (H5.out _ (KW.ext hE)).mono ?_; rintro e w4 ⟨rfl, e4⟩
              replace hX := Blk.below hX e4 (Blk.lt hX)
              replace hB := hB.ext e4
              replace hE := hE.trans e4
              go_wp2_with fail
              go_roundw
              case rel => exact ⟨3, by omega, rfl, by rw [Ha.out], hX, hB, hE⟩
              case measure => simp [intOf]
        · obtain rfl : k = 3 := by omega
          go_wp2_with fail
          (try rw [Exit.noGoto_ret])
          go_ret
          exact ⟨by rw [H6.out]; rfl, hE⟩
    · have b2 : (c.fz.win == win) = false := by simp [c2]
      have hb : b0 = false := by rw [H7.out, b1]; simp [c2]
      have b3 : decide (c.fz.win = win) = false := by simp [c2]
      clear c1 c2
      have HB0 := Lib.hid hb; clear hb
      go_wp2_with fail
      go_step3
      go_wp2_with fail
      go_loopw [13, 30] (fun s13 s30 wr => ∃ k : Nat, k ≤ 3 ∧ s30 = .int .i64 (k : Int) ∧ s13 = .bool (accB b0 d1 d2 d3 k) ∧ ArrB wr w.heap.size 28 x ∧ CiteAt wr (w.heap.size + 1) c.fz P c.place Q c.hd ∧ Ext w wr) (fun _ s30 _ => 3 - (intOf s30).toNat)
      case atStart => exact ⟨0, by omega, rfl, by rw [accB, HB0.out], hX, hB, hE⟩
      case round =>
        clear hX hB hE k0 b1 HB0 H7 H8 H1
        obtain ⟨wo, rfl⟩ : ∃ wo : World, wo = wr := ⟨_, rfl⟩
        obtain ⟨k, hk, rfl, rfl, hX, hB, hE⟩ := hrel
        by_cases hlt : k < 3
        · have hlI : (k : Int) < 3 := by omega
          cases hacc : accB b0 d1 d2 d3 k
          · have hres := H6.out.trans (acc_no b0 d1 d2 d3 k hacc)
            have HR := Lib.hid hres
            clear hacc hres
            go_wp2_with fail
            (try rw [Exit.noGoto_ret])
            go_ret
            exact ⟨by rw [HR.out]; rfl, hE⟩
          · rcases (show k = 0 ∨ k = 1 ∨ k = 2 by omega) with rfl | rfl | rfl
            · have ha : accB b0 d1 d2 d3 1 = d1 := by
                simp only [accB] at hacc ⊢
                rw [hacc, Bool.true_and]
              have Ha := Lib.hid ha
              clear ha hacc
              obtain ⟨k0, k1, k2⟩ := hB.fld
              have kp := hB.path r1 0 _ rfl
              rw [show ((0 : Nat) : Int) = 0 from rfl]
              go_wp2_with (refine stop_load 28 (.tmp 39) rfl ?_)
              refine ⟨?_⟩
              refine wpList_load_mid rfl 28 (.tmp 39) rfl (w.heap.size + 1) (2) (by rfl) (hcells c.fz.root) _ k2 Tryz.underlying28 rfl (size32l _ r1) ?_
              simp only [Act.put, List.setIfInBounds_toArray, List.set_cons_zero, List.set_cons_succ]
              unfold hcells
              go_wp2_with (refine stop_load 28 (.tmp 8) rfl ?_)
              refine ⟨?_⟩
              refine wpList_load_row rfl 28 (.tmp 8) rfl w.heap.size (by rfl) 28 _ (0, 0) _ hX Tryz.underlying28 rfl (size32.trans (by simp [hx])) ?_
              simp only [Act.put, List.setIfInBounds_toArray, List.set_cons_zero, List.set_cons_succ]
              go_wp2_with fail
              change Calls _ _ #[sumV c.fz.root, sumV x, _, _, _] _ _
              refine (H2.out P _ (KW.ext hE) (hP.ext hE)).mono ?_; rintro e w2 ⟨rfl, e2⟩
              clear k0 k1 k2 kp
              replace hX := Blk.below hX e2 (Blk.lt hX)
              replace hB := hB.ext e2
              replace hE := hE.trans e2
              go_wp2_with fail
              go_roundw
              case rel => exact ⟨1, by omega, rfl, by rw [Ha.out], hX, hB, hE⟩
              case measure => simp [intOf]
            · have ha : accB b0 d1 d2 d3 2 = d2 := by
                simp only [accB] at hacc ⊢
                rw [hacc, Bool.true_and]
              have Ha := Lib.hid ha
              clear ha hacc
              obtain ⟨j0, j1⟩ := hB.hfl r1
              have jp := hB.place r1 0 _ rfl
              have js := hB.super r1 0 _ rfl
              have jf := hB.fz
              have hlt := hB.lt
              rw [show ((1 : Nat) : Int) = 1 from rfl]
              go_wp2_with fail
              have hQx : ∀ z : More wo, SlS (grow wo z) (grow wo z).heap.size Q c.super := fun z => (hQ.ext hE).ext (grow_ext z)
              have hKx : ∀ z : More wo, Keys (grow wo z) := fun z => (KW.ext hE).ext (grow_ext z)
              refine region_mix0 (by kernel_rfl) (by kernel_rfl) (fun z0 => ?_)
              iterate 2 (first | (refine mix_quiet (by rfl) (by rfl) (fun K hK => ?_); go_big_quiet_op; refine hK _ ?_; clear hK K) | (refine mix_skip (by rfl) ?_; simp only [Act.put, List.setIfInBounds_toArray, List.set_cons_zero, List.set_cons_succ]))
              refine mix_mid (by rfl) (by rfl) 28 (.tmp 52) rfl (w.heap.size + 1) 38 (by rfl) (hcells c.hd.root) _ j1 hlt Tryz.underlying28 rfl (size32l _ r2) ?_
              simp only [Act.put, List.setIfInBounds_toArray, List.set_cons_zero, List.set_cons_succ]
              iterate 1 (first | (refine mix_quiet (by rfl) (by rfl) (fun K hK => ?_); go_big_quiet_op; refine hK _ ?_; clear hK K) | (refine mix_skip (by rfl) ?_; simp only [Act.put, List.setIfInBounds_toArray, List.set_cons_zero, List.set_cons_succ]))
              refine mix_mid (by rfl) (by rfl) 30 (.tmp 54) rfl (w.heap.size + 1) 0 (by rfl) (c.fz.cells) _ jf hlt Tryz.underlying30 rfl ((Seal.size_fz c.fz r1).trans (by rw [List.size_toArray])) ?_
              simp only [Act.put, List.setIfInBounds_toArray, List.set_cons_zero, List.set_cons_succ]
              (refine mix_loud (by rfl) (by rfl) (fun K E hK => ?_); go_big_op)
              change Calls _ _ #[c.fz.v] _ _
              refine (H3.out _ (hKx _)).mono ?_; rintro e w3 ⟨rfl, hd⟩
              obtain ⟨x1, rfl⟩ := more_ext z0 hd
              refine hK _ _ ⟨_, rfl⟩ ?_; clear hK K E hd
              unfold hcells
              repeat (first | (refine mix_quiet (by rfl) (by rfl) (fun K hK => ?_); go_big_quiet_op; refine hK _ ?_; clear hK K) | (refine mix_skip (by rfl) ?_; simp only [Act.put, List.setIfInBounds_toArray, List.set_cons_zero, List.set_cons_succ]))
              (refine mix_loud (by rfl) (by rfl) (fun K E hK => ?_); go_big_op)
              change Calls _ _ #[sumV c.hd.root, sumV lf, _, _, _] _ _
              refine (H4.out Q _ (hKx _) (hQx _)).mono ?_; rintro e w3 ⟨rfl, hd⟩
              obtain ⟨x2, rfl⟩ := more_ext x1 hd
              refine hK _ _ ⟨_, rfl⟩ ?_; clear hK K E hd
              repeat (first | (refine mix_quiet (by rfl) (by rfl) (fun K hK => ?_); go_big_quiet_op; refine hK _ ?_; clear hK K) | (refine mix_skip (by rfl) ?_; simp only [Act.put, List.setIfInBounds_toArray, List.set_cons_zero, List.set_cons_succ]))
              refine mix_nil ?_
              have e3 := grow_ext x2
              generalize grow wo x2 = w3 at *
              replace hX := Blk.below hX e3 (Blk.lt hX)
              replace hB := hB.ext e3
              replace hE := hE.trans e3
              clear e3 hQx hKx j0 j1 jp js jf hlt
              go_wp2_with fail
              go_roundw
              case rel => exact ⟨2, by omega, rfl, by rw [Ha.out], hX, hB, hE⟩
              case measure => simp [intOf]
            · have ha : accB b0 d1 d2 d3 3 = d3 := by
                simp only [accB] at hacc ⊢
                rw [hacc, Bool.true_and]
              have Ha := Lib.hid ha
              clear ha hacc
              rw [show ((2 : Nat) : Int) = 2 from rfl]
              go_wp2_with (refine stop_load 32 (.tmp 68) rfl ?_)
              refine ⟨?_⟩
              refine wpList_load_mid rfl 32 (.tmp 68) rfl (w.heap.size + 1) 37 (by rfl) (c.hd.cells) _ (hB.head r1) Tryz.underlying32 rfl ((Seal.size_hd c.hd r2 r3).trans (by rw [List.size_toArray])) ?_
              simp only [Act.put, List.setIfInBounds_toArray, List.set_cons_zero, List.set_cons_succ]
              go_wp2_with fail
              change Calls _ _ #[_, c.hd.v] _ _
              refine (H5.out _ (KW.ext hE)).mono ?_; rintro e w4 ⟨rfl, e4⟩
              replace hX := Blk.below hX e4 (Blk.lt hX)
              replace hB := hB.ext e4
              replace hE := hE.trans e4
              go_wp2_with fail
              go_roundw
              case rel => exact ⟨3, by omega, rfl, by rw [Ha.out], hX, hB, hE⟩
              case measure => simp [intOf]
        · obtain rfl : k = 3 := by omega
          go_wp2_with fail
          (try rw [Exit.noGoto_ret])
          go_ret
          exact ⟨by rw [H6.out]; rfl, hE⟩
  · have b1 : (fe == 0) = false := by simp [c1]
    have hb : b0 = false := by rw [H7.out, b1]; rfl
    clear c1
    have HB0 := Lib.hid hb; clear hb
    go_wp2_with fail
    go_step3
    go_wp2_with fail
    go_loopw [13, 30] (fun s13 s30 wr => ∃ k : Nat, k ≤ 3 ∧ s30 = .int .i64 (k : Int) ∧ s13 = .bool (accB b0 d1 d2 d3 k) ∧ ArrB wr w.heap.size 28 x ∧ CiteAt wr (w.heap.size + 1) c.fz P c.place Q c.hd ∧ Ext w wr) (fun _ s30 _ => 3 - (intOf s30).toNat)
    case atStart => exact ⟨0, by omega, rfl, by rw [accB, HB0.out], hX, hB, hE⟩
    case round =>
      clear hX hB hE k0 b1 HB0 H7 H8 H1
      obtain ⟨wo, rfl⟩ : ∃ wo : World, wo = wr := ⟨_, rfl⟩
      obtain ⟨k, hk, rfl, rfl, hX, hB, hE⟩ := hrel
      by_cases hlt : k < 3
      · have hlI : (k : Int) < 3 := by omega
        cases hacc : accB b0 d1 d2 d3 k
        · have hres := H6.out.trans (acc_no b0 d1 d2 d3 k hacc)
          have HR := Lib.hid hres
          clear hacc hres
          go_wp2_with fail
          (try rw [Exit.noGoto_ret])
          go_ret
          exact ⟨by rw [HR.out]; rfl, hE⟩
        · rcases (show k = 0 ∨ k = 1 ∨ k = 2 by omega) with rfl | rfl | rfl
          · have ha : accB b0 d1 d2 d3 1 = d1 := by
              simp only [accB] at hacc ⊢
              rw [hacc, Bool.true_and]
            have Ha := Lib.hid ha
            clear ha hacc
            obtain ⟨k0, k1, k2⟩ := hB.fld
            have kp := hB.path r1 0 _ rfl
            rw [show ((0 : Nat) : Int) = 0 from rfl]
            go_wp2_with (refine stop_load 28 (.tmp 39) rfl ?_)
            refine ⟨?_⟩
            refine wpList_load_mid rfl 28 (.tmp 39) rfl (w.heap.size + 1) (2) (by rfl) (hcells c.fz.root) _ k2 Tryz.underlying28 rfl (size32l _ r1) ?_
            simp only [Act.put, List.setIfInBounds_toArray, List.set_cons_zero, List.set_cons_succ]
            unfold hcells
            go_wp2_with (refine stop_load 28 (.tmp 8) rfl ?_)
            refine ⟨?_⟩
            refine wpList_load_row rfl 28 (.tmp 8) rfl w.heap.size (by rfl) 28 _ (0, 0) _ hX Tryz.underlying28 rfl (size32.trans (by simp [hx])) ?_
            simp only [Act.put, List.setIfInBounds_toArray, List.set_cons_zero, List.set_cons_succ]
            go_wp2_with fail
            change Calls _ _ #[sumV c.fz.root, sumV x, _, _, _] _ _
            refine (H2.out P _ (KW.ext hE) (hP.ext hE)).mono ?_; rintro e w2 ⟨rfl, e2⟩
            clear k0 k1 k2 kp
            replace hX := Blk.below hX e2 (Blk.lt hX)
            replace hB := hB.ext e2
            replace hE := hE.trans e2
            go_wp2_with fail
            go_roundw
            case rel => exact ⟨1, by omega, rfl, by rw [Ha.out], hX, hB, hE⟩
            case measure => simp [intOf]
          · have ha : accB b0 d1 d2 d3 2 = d2 := by
              simp only [accB] at hacc ⊢
              rw [hacc, Bool.true_and]
            have Ha := Lib.hid ha
            clear ha hacc
            obtain ⟨j0, j1⟩ := hB.hfl r1
            have jp := hB.place r1 0 _ rfl
            have js := hB.super r1 0 _ rfl
            have jf := hB.fz
            have hlt := hB.lt
            rw [show ((1 : Nat) : Int) = 1 from rfl]
            go_wp2_with fail
            have hQx : ∀ z : More wo, SlS (grow wo z) (grow wo z).heap.size Q c.super := fun z => (hQ.ext hE).ext (grow_ext z)
            have hKx : ∀ z : More wo, Keys (grow wo z) := fun z => (KW.ext hE).ext (grow_ext z)
            refine region_mix0 (by kernel_rfl) (by kernel_rfl) (fun z0 => ?_)
            iterate 2 (first | (refine mix_quiet (by rfl) (by rfl) (fun K hK => ?_); go_big_quiet_op; refine hK _ ?_; clear hK K) | (refine mix_skip (by rfl) ?_; simp only [Act.put, List.setIfInBounds_toArray, List.set_cons_zero, List.set_cons_succ]))
            refine mix_mid (by rfl) (by rfl) 28 (.tmp 52) rfl (w.heap.size + 1) 38 (by rfl) (hcells c.hd.root) _ j1 hlt Tryz.underlying28 rfl (size32l _ r2) ?_
            simp only [Act.put, List.setIfInBounds_toArray, List.set_cons_zero, List.set_cons_succ]
            iterate 1 (first | (refine mix_quiet (by rfl) (by rfl) (fun K hK => ?_); go_big_quiet_op; refine hK _ ?_; clear hK K) | (refine mix_skip (by rfl) ?_; simp only [Act.put, List.setIfInBounds_toArray, List.set_cons_zero, List.set_cons_succ]))
            refine mix_mid (by rfl) (by rfl) 30 (.tmp 54) rfl (w.heap.size + 1) 0 (by rfl) (c.fz.cells) _ jf hlt Tryz.underlying30 rfl ((Seal.size_fz c.fz r1).trans (by rw [List.size_toArray])) ?_
            simp only [Act.put, List.setIfInBounds_toArray, List.set_cons_zero, List.set_cons_succ]
            (refine mix_loud (by rfl) (by rfl) (fun K E hK => ?_); go_big_op)
            change Calls _ _ #[c.fz.v] _ _
            refine (H3.out _ (hKx _)).mono ?_; rintro e w3 ⟨rfl, hd⟩
            obtain ⟨x1, rfl⟩ := more_ext z0 hd
            refine hK _ _ ⟨_, rfl⟩ ?_; clear hK K E hd
            unfold hcells
            repeat (first | (refine mix_quiet (by rfl) (by rfl) (fun K hK => ?_); go_big_quiet_op; refine hK _ ?_; clear hK K) | (refine mix_skip (by rfl) ?_; simp only [Act.put, List.setIfInBounds_toArray, List.set_cons_zero, List.set_cons_succ]))
            (refine mix_loud (by rfl) (by rfl) (fun K E hK => ?_); go_big_op)
            change Calls _ _ #[sumV c.hd.root, sumV lf, _, _, _] _ _
            refine (H4.out Q _ (hKx _) (hQx _)).mono ?_; rintro e w3 ⟨rfl, hd⟩
            obtain ⟨x2, rfl⟩ := more_ext x1 hd
            refine hK _ _ ⟨_, rfl⟩ ?_; clear hK K E hd
            repeat (first | (refine mix_quiet (by rfl) (by rfl) (fun K hK => ?_); go_big_quiet_op; refine hK _ ?_; clear hK K) | (refine mix_skip (by rfl) ?_; simp only [Act.put, List.setIfInBounds_toArray, List.set_cons_zero, List.set_cons_succ]))
            refine mix_nil ?_
            have e3 := grow_ext x2
            generalize grow wo x2 = w3 at *
            replace hX := Blk.below hX e3 (Blk.lt hX)
            replace hB := hB.ext e3
            replace hE := hE.trans e3
            clear e3 hQx hKx j0 j1 jp js jf hlt
            go_wp2_with fail
            go_roundw
            case rel => exact ⟨2, by omega, rfl, by rw [Ha.out], hX, hB, hE⟩
            case measure => simp [intOf]
          · have ha : accB b0 d1 d2 d3 3 = d3 := by
              simp only [accB] at hacc ⊢
              rw [hacc, Bool.true_and]
            have Ha := Lib.hid ha
            clear ha hacc
            rw [show ((2 : Nat) : Int) = 2 from rfl]
            go_wp2_with (refine stop_load 32 (.tmp 68) rfl ?_)
            refine ⟨?_⟩
            refine wpList_load_mid rfl 32 (.tmp 68) rfl (w.heap.size + 1) 37 (by rfl) (c.hd.cells) _ (hB.head r1) Tryz.underlying32 rfl ((Seal.size_hd c.hd r2 r3).trans (by rw [List.size_toArray])) ?_
            simp only [Act.put, List.setIfInBounds_toArray, List.set_cons_zero, List.set_cons_succ]
            go_wp2_with fail
            change Calls _ _ #[_, c.hd.v] _ _
            refine (H5.out _ (KW.ext hE)).mono ?_; rintro e w4 ⟨rfl, e4⟩
            replace hX := Blk.below hX e4 (Blk.lt hX)
            replace hB := hB.ext e4
            replace hE := hE.trans e4
            go_wp2_with fail
            go_roundw
            case rel => exact ⟨3, by omega, rfl, by rw [Ha.out], hX, hB, hE⟩
            case measure => simp [intOf]
      · obtain rfl : k = 3 := by omega
        go_wp2_with fail
        (try rw [Exit.noGoto_ret])
        go_ret
        exact ⟨by rw [H6.out]; rfl, hE⟩

end Go.Proofs.YtcgnjdkennkheaaGreatDoor

namespace Go.Proofs.YtcgnjdkennkheaaGreatDoor
open Go.RowKit
open Seal (Fz Hd St Ct)
attribute [local go_sem] bs_size bs_toList2 bs_append bs_extract_end bs_extract_begin bs_get wrap64_b grow_cell grow_frozen

theorem size_rc (r : Rc) : (Tryz.prog.info? 36).map (·.size) = some (#[.int .i64 r.win, .int .i64 r.idx, .int .i64 r.time, .string (bs r.pay)] : Array Value).size := by kernel_rfl
/-- What Right tells. -/
def rightCB (key : List UInt8) (r : Rc) (c : Ct) : Bool := decide (r.check = 0) && leafRightB key r.win r.idx (leafB r.outB) c

set_option maxHeartbeats 4000000 in
theorem cfRight_calls (key : List UInt8) (hk : key.length ≤ 4611686018427387904) (r : Rc) (hp : r.pay.length ≤ 140737488355328) (c : Ct) (hc : fitC c) (P Q : Value) (w : World) (hP : SlS w w.heap.size P c.path) (hQ : SlS w w.heap.size Q c.super) :
    Calls Tryz.prog 17 #[.string (bs key), r.v, citeV c.fz P c.place Q c.hd] w fun e w' => e = .returned (.bool (rightCB key r c)) ∧ Ext w w' := by
  have hR : RecAt ((w.alloc (.cells #[.int .i64 r.win, .int .i64 r.idx, .int .i64 r.time, .string (bs r.pay)] 36)).alloc (.cells (citeC c.fz P c.place Q c.hd).toArray 34)) w.heap.size r := RecAt.ext (Blk.new w 36 _) ((Ext.refl _).alloc _)
  have hB : CiteAt ((w.alloc (.cells #[.int .i64 r.win, .int .i64 r.idx, .int .i64 r.time, .string (bs r.pay)] 36)).alloc (.cells (citeC c.fz P c.place Q c.hd).toArray 34)) (w.heap.size + 1) c.fz P c.place Q c.hd := by
    have := Blk.new (w.alloc (.cells #[.int .i64 r.win, .int .i64 r.idx, .int .i64 r.time, .string (bs r.pay)] 36)) 34 (citeC c.fz P c.place Q c.hd).toArray
    rw [alloc_size] at this
    exact this
  have hE : Ext w ((w.alloc (.cells #[.int .i64 r.win, .int .i64 r.idx, .int .i64 r.time, .string (bs r.pay)] 36)).alloc (.cells (citeC c.fz P c.place Q c.hd).toArray 34)) := ((Ext.refl w).alloc _).alloc _
  have hll : (leafB r.outB).length = 32 := leafB_length _
  obtain ⟨⟨r1, r2, r3, -, -⟩, -⟩ := id hc
  have HC := fun w => refCheck_calls r w (by omega)
  have HL := fun w => refRecLeaf_calls r w hp
  obtain ⟨lf, hlf⟩ : ∃ lf, lf = leafB r.outB := ⟨_, rfl⟩
  unfold rightCB
  rw [← hlf] at HL hll ⊢
  have HR := fun w h1 h2 => cfLeafRight_calls key hk r.win r.idx lf hll c hc P Q w h1 h2
  generalize leafRightB key r.win r.idx lf c = d at *
  generalize r.check = ck at *
  have H1 := Lib.hid HC; have H2 := Lib.hid HL; have H3 := Lib.hid HR
  clear HC HL HR hlf
  have hsz := size_rc r
  unfold citeV Rc.v
  go_enter Tryz.func17, Tryz.ntmps17
  go_wp2_with fail
  change (Code.region _ _ _).wp _ _ _ ((w.alloc (.cells #[.int .i64 r.win, .int .i64 r.idx, .int .i64 r.time, .string (bs r.pay)] 36)).alloc (.cells (citeC c.fz P c.place Q c.hd).toArray 34))
  generalize ((w.alloc (.cells #[.int .i64 r.win, .int .i64 r.idx, .int .i64 r.time, .string (bs r.pay)] 36)).alloc (.cells (citeC c.fz P c.place Q c.hd).toArray 34)) = w0 at *
  obtain ⟨k0, k1, -, -⟩ := hR.cells
  have hl1 := Blk.lt hR
  have hl2 := hB.lt
  have hPx : ∀ z : More w0, SlS (grow w0 z) (grow w0 z).heap.size P c.path := fun z => (hP.ext hE).ext (grow_ext z)
  have hQx : ∀ z : More w0, SlS (grow w0 z) (grow w0 z).heap.size Q c.super := fun z => (hQ.ext hE).ext (grow_ext z)
  refine region_mix0 (by kernel_rfl) (by kernel_rfl) (fun z0 => ?_)
  iterate 5 (first | (refine mix_quiet (by rfl) (by rfl) (fun K hK => ?_); go_big_quiet_op; refine hK _ ?_; clear hK K) | (refine mix_skip (by rfl) ?_; simp only [Act.put, List.setIfInBounds_toArray, List.set_cons_zero, List.set_cons_succ]))
  refine mix_row (by rfl) (by rfl) 36 (.tmp 4) rfl w.heap.size (by rfl) _ _ _ hR Tryz.underlying36 rfl hsz ?_
  simp only [Act.put, List.setIfInBounds_toArray, List.set_cons_zero, List.set_cons_succ]
  (refine mix_loud (by rfl) (by rfl) (fun K E hK => ?_); go_big_op)
  change Calls _ _ #[r.v] _ _
  refine (H2.out _).mono ?_; rintro e w3 ⟨rfl, hd⟩
  obtain ⟨x1, rfl⟩ := more_ext z0 hd
  refine hK _ _ ⟨_, rfl⟩ ?_; clear hK K E hd
  refine mix_row (by rfl) (by rfl) 34 (.tmp 5) rfl (w.heap.size + 1) (by rfl) _ _ _ hB Tryz.underlying34 rfl (size_ct r1 r2 r3) ?_
  simp only [Act.put, List.setIfInBounds_toArray, List.set_cons_zero, List.set_cons_succ]
  (refine mix_loud (by rfl) (by rfl) (fun K E hK => ?_); go_big_op)
  change Calls _ _ #[.string (bs key), .int .i64 r.win, .int .i64 r.idx, sumV lf, citeV c.fz P c.place Q c.hd] _ _
  refine (H3.out _ (hPx _) (hQx _)).mono ?_; rintro e w3 ⟨rfl, hd⟩
  obtain ⟨x2, rfl⟩ := more_ext x1 hd
  refine hK _ _ ⟨_, rfl⟩ ?_; clear hK K E hd
  repeat (first | (refine mix_quiet (by rfl) (by rfl) (fun K hK => ?_); go_big_quiet_op; refine hK _ ?_; clear hK K) | (refine mix_skip (by rfl) ?_; simp only [Act.put, List.setIfInBounds_toArray, List.set_cons_zero, List.set_cons_succ]))
  refine mix_nil ?_
  have e3 := grow_ext x2
  generalize grow w0 x2 = w3 at *
  replace hR := hR.ext e3
  replace hE := hE.trans e3
  clear e3 hPx hQx k0 k1
  go_wp2_with (refine stop_load 36 (.tmp 4) rfl ?_)
  refine ⟨?_⟩
  refine wpList_load_row rfl 36 (.tmp 4) rfl w.heap.size (by rfl) 36 _ (0, 0) _ hR Tryz.underlying36 rfl hsz ?_
  simp only [Act.put, List.setIfInBounds_toArray, List.set_cons_zero, List.set_cons_succ]
  go_wp2_with fail
  change Calls _ _ #[r.v] _ _
  refine (H1.out _).mono ?_; rintro e w4 ⟨rfl, e4⟩
  replace hE := hE.trans e4
  by_cases hck : ck = 0
  · have b1 : (ck == 0) = true := by simp [hck]
    have b2 : decide (ck = 0) = true := by simp [hck]
    clear hck
    go_wp2_with fail
    go_ret
    exact ⟨by rw [b2]; simp, hE⟩
  · have b1 : (ck == 0) = false := by simp [hck]
    have b2 : decide (ck = 0) = false := by simp [hck]
    clear hck
    go_wp2_with fail
    go_ret
    exact ⟨by rw [b2]; simp, hE⟩

set_option maxHeartbeats 4000000 in
theorem ctRight_calls (key : List UInt8) (hk : key.length ≤ 4611686018427387904) (r : Rc) (hp : r.pay.length ≤ 140737488355328) (c : Ct) (hc : fitC c) (P Q : Value) (w : World) (KW : Keys w) (hP : SlS w w.heap.size P c.path) (hQ : SlS w w.heap.size Q c.super) :
    Calls Tryz.prog 10 #[.string (bs key), r.v, citeV c.fz P c.place Q c.hd] w fun e w' => e = .returned (.bool (rightCB key r c)) ∧ Ext w w' := by
  have hR : RecAt ((w.alloc (.cells #[.int .i64 r.win, .int .i64 r.idx, .int .i64 r.time, .string (bs r.pay)] 36)).alloc (.cells (citeC c.fz P c.place Q c.hd).toArray 34)) w.heap.size r := RecAt.ext (Blk.new w 36 _) ((Ext.refl _).alloc _)
  have hB : CiteAt ((w.alloc (.cells #[.int .i64 r.win, .int .i64 r.idx, .int .i64 r.time, .string (bs r.pay)] 36)).alloc (.cells (citeC c.fz P c.place Q c.hd).toArray 34)) (w.heap.size + 1) c.fz P c.place Q c.hd := by
    have := Blk.new (w.alloc (.cells #[.int .i64 r.win, .int .i64 r.idx, .int .i64 r.time, .string (bs r.pay)] 36)) 34 (citeC c.fz P c.place Q c.hd).toArray
    rw [alloc_size] at this
    exact this
  have hE : Ext w ((w.alloc (.cells #[.int .i64 r.win, .int .i64 r.idx, .int .i64 r.time, .string (bs r.pay)] 36)).alloc (.cells (citeC c.fz P c.place Q c.hd).toArray 34)) := ((Ext.refl w).alloc _).alloc _
  have hll : (leafB r.outB).length = 32 := leafB_length _
  obtain ⟨⟨r1, r2, r3, -, -⟩, -⟩ := id hc
  have HC := fun w => Check_calls r w (by omega)
  have HL := fun w KW => recLeaf_calls r w KW hp
  obtain ⟨lf, hlf⟩ : ∃ lf, lf = leafB r.outB := ⟨_, rfl⟩
  unfold rightCB
  rw [← hlf] at HL hll ⊢
  have HR := fun w KW h1 h2 => ctLeafRight_calls key hk r.win r.idx lf hll c hc P Q w KW h1 h2
  generalize leafRightB key r.win r.idx lf c = d at *
  generalize r.check = ck at *
  have H1 := Lib.hid HC; have H2 := Lib.hid HL; have H3 := Lib.hid HR
  clear HC HL HR hlf
  have hsz := size_rc r
  by_cases hck : ck = 0
  · have b1 : (ck == 0) = true := by simp [hck]
    have b2 : decide (ck = 0) = true := by simp [hck]
    rw [b2]
    clear hck
    unfold citeV Rc.v
    go_enter Tryz.func10, Tryz.ntmps10
    go_wp2_with fail
    change (Code.region _ _ _).wp _ _ _ ((w.alloc (.cells #[.int .i64 r.win, .int .i64 r.idx, .int .i64 r.time, .string (bs r.pay)] 36)).alloc (.cells (citeC c.fz P c.place Q c.hd).toArray 34))
    generalize ((w.alloc (.cells #[.int .i64 r.win, .int .i64 r.idx, .int .i64 r.time, .string (bs r.pay)] 36)).alloc (.cells (citeC c.fz P c.place Q c.hd).toArray 34)) = w0 at *
    obtain ⟨k0, k1, -, -⟩ := hR.cells
    have hl1 := Blk.lt hR
    have hl2 := hB.lt
    have hPx : ∀ z : More w0, SlS (grow w0 z) (grow w0 z).heap.size P c.path := fun z => (hP.ext hE).ext (grow_ext z)
    have hQx : ∀ z : More w0, SlS (grow w0 z) (grow w0 z).heap.size Q c.super := fun z => (hQ.ext hE).ext (grow_ext z)
    have hKx : ∀ z : More w0, Keys (grow w0 z) := fun z => (KW.ext hE).ext (grow_ext z)
    refine region_mix0 (by kernel_rfl) (by kernel_rfl) (fun z0 => ?_)
    refine mix_row (by rfl) (by rfl) 36 (.tmp 4) rfl w.heap.size (by rfl) _ _ _ hR Tryz.underlying36 rfl hsz ?_
    simp only [Act.put, List.setIfInBounds_toArray, List.set_cons_zero, List.set_cons_succ]
    (refine mix_loud (by rfl) (by rfl) (fun K E hK => ?_); go_big_op)
    change Calls _ _ #[r.v] _ _
    refine (H1.out _).mono ?_; rintro e w3 ⟨rfl, hd⟩
    obtain ⟨x1, rfl⟩ := more_ext z0 hd
    refine hK _ _ ⟨_, rfl⟩ ?_; clear hK K E hd
    iterate 7 (first | (refine mix_quiet (by rfl) (by rfl) (fun K hK => ?_); go_big_quiet_op; refine hK _ ?_; clear hK K) | (refine mix_skip (by rfl) ?_; simp only [Act.put, List.setIfInBounds_toArray, List.set_cons_zero, List.set_cons_succ]))
    refine mix_row (by rfl) (by rfl) 36 (.tmp 4) rfl w.heap.size (by rfl) _ _ _ hR Tryz.underlying36 rfl hsz ?_
    simp only [Act.put, List.setIfInBounds_toArray, List.set_cons_zero, List.set_cons_succ]
    (refine mix_loud (by rfl) (by rfl) (fun K E hK => ?_); go_big_op)
    change Calls _ _ #[r.v] _ _
    refine (H2.out _ (hKx _)).mono ?_; rintro e w3 ⟨rfl, hd⟩
    obtain ⟨x2, rfl⟩ := more_ext x1 hd
    refine hK _ _ ⟨_, rfl⟩ ?_; clear hK K E hd
    refine mix_row (by rfl) (by rfl) 34 (.tmp 5) rfl (w.heap.size + 1) (by rfl) _ _ _ hB Tryz.underlying34 rfl (size_ct r1 r2 r3) ?_
    simp only [Act.put, List.setIfInBounds_toArray, List.set_cons_zero, List.set_cons_succ]
    (refine mix_loud (by rfl) (by rfl) (fun K E hK => ?_); go_big_op)
    change Calls _ _ #[.string (bs key), .int .i64 r.win, .int .i64 r.idx, sumV lf, citeV c.fz P c.place Q c.hd] _ _
    refine (H3.out _ (hKx _) (hPx _) (hQx _)).mono ?_; rintro e w3 ⟨rfl, hd⟩
    obtain ⟨x3, rfl⟩ := more_ext x2 hd
    refine hK _ _ ⟨_, rfl⟩ ?_; clear hK K E hd
    repeat (first | (refine mix_quiet (by rfl) (by rfl) (fun K hK => ?_); go_big_quiet_op; refine hK _ ?_; clear hK K) | (refine mix_skip (by rfl) ?_; simp only [Act.put, List.setIfInBounds_toArray, List.set_cons_zero, List.set_cons_succ]))
    refine mix_nil ?_
    go_wp2_with fail
    go_ret
    exact ⟨by simp, hE.trans (grow_ext _)⟩
  · have b1 : (ck == 0) = false := by simp [hck]
    have b2 : decide (ck = 0) = false := by simp [hck]
    rw [b2]
    clear hck
    unfold citeV Rc.v
    go_enter Tryz.func10, Tryz.ntmps10
    go_wp2_with fail
    change (Code.region _ _ _).wp _ _ _ ((w.alloc (.cells #[.int .i64 r.win, .int .i64 r.idx, .int .i64 r.time, .string (bs r.pay)] 36)).alloc (.cells (citeC c.fz P c.place Q c.hd).toArray 34))
    generalize ((w.alloc (.cells #[.int .i64 r.win, .int .i64 r.idx, .int .i64 r.time, .string (bs r.pay)] 36)).alloc (.cells (citeC c.fz P c.place Q c.hd).toArray 34)) = w0 at *
    obtain ⟨k0, k1, -, -⟩ := hR.cells
    have hl1 := Blk.lt hR
    have hl2 := hB.lt
    have hPx : ∀ z : More w0, SlS (grow w0 z) (grow w0 z).heap.size P c.path := fun z => (hP.ext hE).ext (grow_ext z)
    have hQx : ∀ z : More w0, SlS (grow w0 z) (grow w0 z).heap.size Q c.super := fun z => (hQ.ext hE).ext (grow_ext z)
    have hKx : ∀ z : More w0, Keys (grow w0 z) := fun z => (KW.ext hE).ext (grow_ext z)
    refine region_mix0 (by kernel_rfl) (by kernel_rfl) (fun z0 => ?_)
    refine mix_row (by rfl) (by rfl) 36 (.tmp 4) rfl w.heap.size (by rfl) _ _ _ hR Tryz.underlying36 rfl hsz ?_
    simp only [Act.put, List.setIfInBounds_toArray, List.set_cons_zero, List.set_cons_succ]
    (refine mix_loud (by rfl) (by rfl) (fun K E hK => ?_); go_big_op)
    change Calls _ _ #[r.v] _ _
    refine (H1.out _).mono ?_; rintro e w3 ⟨rfl, hd⟩
    obtain ⟨x1, rfl⟩ := more_ext z0 hd
    refine hK _ _ ⟨_, rfl⟩ ?_; clear hK K E hd
    repeat (first | (refine mix_quiet (by rfl) (by rfl) (fun K hK => ?_); go_big_quiet_op; refine hK _ ?_; clear hK K) | (refine mix_skip (by rfl) ?_; simp only [Act.put, List.setIfInBounds_toArray, List.set_cons_zero, List.set_cons_succ]))
    refine mix_nil ?_
    go_wp2_with fail
    go_ret
    exact ⟨by simp, hE.trans (grow_ext _)⟩

end Go.Proofs.YtcgnjdkennkheaaGreatDoor

namespace Go.Proofs.YtcgnjdkennkheaaGreatDoor
open Go.ChangeShapes Go.WideShapes Go.ChangeAt Go.RowKit
open Seal (Fz Hd St)
attribute [local go_sem] bs_size bs_toList2 bs_append bs_extract_end bs_extract_begin bs_get wrap64_b grow_cell grow_frozen

section
variable {P : Program} {ops : Array Oper} {T : Act → World → Prop} {o : Oper} {rest : List Oper} {a : Act} {w w0 : World} {m k : Nat}
/-- A whole row loaded ahead of a barrier. -/
theorem bar_row (hh : held loudOp .any ops m k = true) (hl : loudOp o = false) (hw : Region.wanted o (yielded ops a.tmps) = true) (ty : TypeId) (p : Operand) (ho : o.op = .load ty p) (g : Nat) (hx : a.eval p = .pointer (some ⟨g, 0, none⟩))
    (t : TypeId) (cs : Array Value) (d : TypeDesc) (hg : Blk w0 g t cs) (hu : P.underlying ty = some d) (hd : (match d with | .struct _ | .array _ _ => true | _ => false) = true) (hi : (P.info? ty).map (·.size) = some cs.size)
    (h : wpBar P .any ops (fun w' => ∃ x : More w0, w' = grow w0 x) loudOp m T (k + 1) rest (a.put o.dst (.agg cs)) w) : wpBar P .any ops (fun w' => ∃ x : More w0, w' = grow w0 x) loudOp m T k (o :: rest) a w := by
  refine bar_quiet hh hl hw fun K hK => ⟨.agg cs, fun w' hs => ?_, hK _ h⟩
  obtain ⟨x, rfl⟩ := hs
  unfold Oper.quietAt execOp
  simp only [ho, hx, Instr.loadAt, Instr.sureAddr, Sem.run_bind, Sem.run_pure, Result.andThen_ok, run_loadVar_row (grow w0 x) g t ty cs (0, 0) d (Blk.grow x hg) hu hd hi]
  exact ⟨rfl, rfl⟩
end

def flatF (l : List Fz) : List Value := l.flatMap Seal.Fz.cells
def AllF (l : List Fz) : Prop := ∀ f ∈ l, f.root.length = 32
theorem AllF.get {l : List Fz} (h : AllF l) (k : Nat) (hk : k < l.length) : l[k].root.length = 32 := h _ (List.getElem_mem hk)
theorem AllF.snoc {l : List Fz} {f : Fz} (h : AllF l) (hf : f.root.length = 32) : AllF (l ++ [f]) := fun g hg => by
  rcases List.mem_append.1 hg with hg | hg
  · exact h g hg
  · rw [List.mem_singleton.1 hg]; exact hf
theorem flatF_append (a b : List Fz) : flatF (a ++ b) = flatF a ++ flatF b := by simp [flatF]
theorem flatF_one (f : Fz) : flatF [f] = f.cells := by simp [flatF]
theorem flatF_length : ∀ (l : List Fz), AllF l → (flatF l).length = l.length * 34
  | [], _ => rfl
  | f :: l, h => by
    have h1 := h f (by simp)
    have h2 := flatF_length l (fun g hg => h g (by simp [hg]))
    unfold flatF at *
    simp only [List.flatMap_cons, List.length_append, Seal.Fz.cells_length f h1, List.length_cons, h2]
    omega
theorem flatF_one_ (l : List Fz) : ∀ u ∈ flatF l, u.oneCell' = true := fun u hu => by
  unfold flatF at hu
  obtain ⟨s, _, hs⟩ := List.mem_flatMap.1 hu
  exact Seal.Fz.one s u hs
theorem flatF_get (l : List Fz) (h : AllF l) (k : Nat) (hk : k < l.length) (j : Nat) (v : Value) (hv : l[k].cells[j]? = some v) : (flatF l)[k * 34 + j]? = some v := by
  have hs : l = l.take k ++ (l[k] :: l.drop (k + 1)) := by rw [List.getElem_cons_drop, List.take_append_drop]
  have hl : (flatF (l.take k)).length = k * 34 := by
    rw [flatF_length _ (fun g hg => h g (List.mem_of_mem_take hg)), List.length_take]
    congr 1
    omega
  have hj : j < l[k].cells.length := (List.getElem?_eq_some_iff.1 hv).1
  rw [hs, flatF_append, List.getElem?_append_right (by omega), hl, Nat.add_sub_cancel_left]
  show (flatF ([l[k]] ++ l.drop (k + 1)))[j]? = some v
  rw [flatF_append, flatF_one, List.getElem?_append_left hj, hv]
theorem flatF_ne {l : List Fz} (h : AllF l) {k : Nat} (hk : k < l.length) : flatF l ≠ [] := fun e => by
  have := flatF_length l h
  rw [e] at this
  simp at this
  omega
theorem rdf_at {w : World} {B b off : Nat} {l : List Fz} (h : Rd w B (some ⟨b, off, none⟩) (flatF l)) (hl : AllF l) {k : Nat} (hk : k < l.length) : b < B ∧ w.rangeAt b (off + k * 34) l[k].cells := by
  obtain ⟨b', off', e, hb, hc⟩ := h (flatF_ne hl hk)
  injection e with e
  injection e with e1 e2
  subst e1 e2
  exact ⟨hb, fun j v hv => by rw [Nat.add_assoc]; exact hc _ v (flatF_get l hl k hk j v hv)⟩
theorem fz_info : (Tryz.prog.info? 30).map (fun i => (i.size, i.bytes, i.zero.map (·.cells.size))) = some (34, 48, some 34) := by kernel_rfl
theorem info_fz : ∃ i z, Tryz.prog.info? 30 = some i ∧ i.zero = some z ∧ i.size = 34 ∧ i.bytes = 48 ∧ z.cells.size = 34 := by
  have h := fz_info
  cases hi : Tryz.prog.info? 30 with
  | none => rw [hi] at h; cases h
  | some i =>
    rw [hi] at h
    simp only [Option.map_some, Option.some.injEq, Prod.mk.injEq] at h
    obtain ⟨h1, h2, h3⟩ := h
    cases hz : i.zero with
    | none => rw [hz] at h3; cases h3
    | some z =>
      rw [hz] at h3
      simp only [Option.map_some, Option.some.injEq] at h3
      exact ⟨i, z, rfl, hz, h1, h2, h3⟩
theorem wp_buildFz {o : Oper} {a : Act} {w : World} {K : Act → World → Prop} {Q : Exit → Act → World → Prop} (parts : Array (Nat × Operand)) (ho : o.op = .buildSlice 63 1 parts)
    (f : Fz) (hf : f.root.length = 32) (hp : parts.toList.map (fun x => (x.1, a.eval x.2)) = [(0, f.v)])
    (h : K (a.put o.dst (.slice (some ⟨w.heap.size, 0, none⟩) 1 1)) (w.alloc (.cells (flatF [f]).toArray 30))) : o.wp Tryz.prog a w K Q := by
  obtain ⟨i0, z, hi, hz0, hz1, hz2, hz3⟩ := info_fz
  refine wp_buildSlice 63 30 1 parts ho _ i0 z Tryz.underlying63 hi hz0 (by rw [hz1]; omega) (by rw [hz1]; omega) ?_ h
  rw [Array.toList_map, show (parts.toList.map fun (i, x) => (i, a.eval x)) = [(0, f.v)] from hp, hz1]
  have := fill_one (place := fun i => some (i * 34, 34)) (i := 0) (off := 0) (size := 34) rfl f.v [] (((Array.range (1 * 34)).map (z.cells[· % z.cells.size]!)).toList) [] rfl (by simp [Seal.Fz.v, Value.cells, Seal.Fz.cells_length f hf]) (by simp) []
  rw [List.nil_append, List.append_nil, List.nil_append, List.append_nil, Array.toArray_toList] at this
  rw [flatF_one]
  refine this.trans ?_
  simp [Instr.fill, Seal.Fz.v, Value.cells]
theorem append_fz {o : Oper} {a : Act} {w : World} {K : Act → World → Prop} {Q : Exit → Act → World → Prop} (s x : Operand) (ho : o.op = .call { callee := .builtin .append, args := #[s, x], argTypes := #[63, 63] })
    (v : Value) (l : List Fz) (y : Fz) (hs : a.eval s = v) (hx : a.eval x = .slice (some ⟨w.heap.size, 0, none⟩) 1 1) (hy : y.root.length = 32) (hn : l.length ≤ 1000000) (base : Nat) (hb : base ≤ w.heap.size) (n : Nat) (hln : l.length = n)
    (h : w.ownsRow base 30 34 v n (flatF l))
    (hK : ∀ A c w', w'.ownsRow base 30 34 (.slice A (n + 1) c) (n + 1) (flatF (l ++ [y])) → (w.alloc (.cells (flatF [y]).toArray 30)).grownBy w' v.ownBlock → K (a.put o.dst (.slice A (n + 1) c)) w') :
    o.wp Tryz.prog a (w.alloc (.cells (flatF [y]).toArray 30)) K Q := by
  obtain ⟨i0, z, hi, hz0, hz1, hz2, hz3⟩ := info_fz
  refine wp_append_own _ s x 63 ho base 30 i0 z 34 48 Tryz.underlying63 hi hz0 hz1 hz2 hz3 (by decide) v n (flatF l) hs (h.alloc _) ⟨w.heap.size, 0, none⟩ 1 1 (y.cells) hx (by rw [Seal.Fz.cells_length y hy]) (fun j u hj => ?_) (Seal.Fz.one y) (by unfold maxLen; omega) (by omega) (by simp; omega) fun v' w' h1 h2 _ => ?_
  · rw [Addr.add_mid, Nat.zero_add, Blk.cell (Blk.new w 30 (flatF [y]).toArray) j, flatF_one]
    simpa using hj
  · obtain ⟨A, c, rfl⟩ := own_slice h1
    rw [← flatF_one, ← flatF_append] at h1
    exact hK A c w' h1 h2
/-- A Super in a block: its row of freezes the call's own. -/
def SupAt (w : World) (gs base : Nat) (l : List Fz) (v : Value) : Prop := Blk w gs 65 #[v] ∧ w.ownsRow base 30 34 v l.length (flatF l)
theorem SupAt.ext {w w' : World} {gs base : Nat} {l : List Fz} {v : Value} (h : SupAt w gs base l v) (e : Ext w w') : SupAt w' gs base l v := ⟨Blk.below h.1 e (Blk.lt h.1), owns_ext h.2 e⟩
theorem SupAt.lt {w : World} {gs base : Nat} {l : List Fz} {v : Value} (h : SupAt w gs base l v) : gs < w.heap.size := Blk.lt h.1
theorem SupAt.c {w : World} {gs base : Nat} {l : List Fz} {v : Value} (h : SupAt w gs base l v) : w.cell? ⟨gs, 0, none⟩ = some v := Blk.cell h.1 0

set_option maxHeartbeats 4000000 in
theorem Anchor_calls (gs base : Nat) (l : List Fz) (v : Value) (f : Fz) (hf : f.root.length = 32) (hm : f.may) (hla : AllF l) (hn : l.length ≤ 1000) (hlast : ∀ (h : 0 < l.length), l[l.length - 1].win < f.win) (w : World) (hS : SupAt w gs base l v) (hbase : base ≤ w.heap.size) :
    Calls Tryz.prog 23 #[.pointer (some ⟨gs, 0, none⟩), f.v] w fun e w' => e = .returned (.tuple #[.int .i64 (l.length : Int), .int .i64 0]) ∧ (∃ v', SupAt w' gs base (l ++ [f]) v') ∧ Keep (fun k => k ≠ gs ∧ v.ownBlock ≠ some k) w w' := by
  have hB0 : FzAt (w.alloc (.cells f.cells.toArray 30)) w.heap.size f := Blk.new w 30 _
  have hE0 : Ext w (w.alloc (.cells f.cells.toArray 30)) := (Ext.refl w).alloc _
  obtain ⟨ho, he⟩ := Seal.Fz.out_ok f hm
  have HF := fun w => refFreezeBytes_calls f hf w
  rw [he] at HF
  have HF1 := Lib.hid HF
  clear HF he ho
  have hgs := hS.lt
  have hS0 := hS.ext hE0
  obtain ⟨A, cap, rfl⟩ := own_slice hS.2
  unfold Seal.Fz.v
  go_enter Tryz.func23, Tryz.ntmps23
  go_wp2_with (refine stop_load 30 (.tmp 3) rfl ?_)
  refine ⟨?_⟩
  change wpList _ _ _ _ _ (w.alloc (.cells f.cells.toArray 30))
  generalize (w.alloc (.cells f.cells.toArray 30)) = w0 at *
  refine wpList_load_row rfl 30 (.tmp 3) rfl w.heap.size (by rfl) 30 _ (0, 0) _ hB0 Tryz.underlying30 rfl (Seal.size_fz f hf) ?_
  simp only [Act.put, List.setIfInBounds_toArray, List.set_cons_zero, List.set_cons_succ]
  go_wp2_with fail
  change Calls _ _ #[f.v] _ _
  refine (HF1.out _).mono ?_; rintro e w1 ⟨rfl, e1⟩
  have hB1 := hB0.ext e1
  have hE1 := hE0.trans e1
  have hS1 := hS0.ext e1
  have cs := hS1.c
  have c0 := hB1.c0
  have hlt := hB1.lt
  have hgl := hS1.lt
  clear hB0 hE0 hS0 e1 HF1
  by_cases hne : 0 < l.length
  · skip
    have hw := hlast hne
    have hAo : ∃ b off, A = some ⟨b, off, none⟩ := by
      obtain ⟨b, off, e, _⟩ := Rd.of_own hS1.2 (flatF_ne hla hne)
      exact ⟨b, off, e⟩
    obtain ⟨b, off, rfl⟩ := hAo
    obtain ⟨hbl, hr⟩ := rdf_at (Rd.of_own hS1.2) hla (show l.length - 1 < l.length by omega)
    have cw : w1.cell? ⟨b, off + (l.length - 1) * 34, none⟩ = some (.int .i64 l[l.length - 1].win) := hr 0 _ (by simp [Seal.Fz.cells])
    have i1 : (0 : Int) < (l.length : Int) := by omega
    have i2 : (l.length : Int) - 1 = ((l.length - 1 : Nat) : Int) := by omega
    have i3 : ((l.length - 1 : Nat) : Int) < (l.length : Int) := by omega
    have d1 : decide (f.win ≤ l[l.length - 1].win) = false := by simp; omega
    generalize l[l.length - 1].win = lw at *
    clear hr
    go_wp2_with fail
    refine region_mix0 (by kernel_rfl) (by kernel_rfl) (fun x => ?_)
    repeat (first | (refine mix_quiet (by rfl) (by rfl) (fun K hK => ?_); go_big_quiet_op; refine hK _ ?_; clear hK K) | (refine mix_skip (by rfl) ?_; simp only [Act.put, List.setIfInBounds_toArray, List.set_cons_zero, List.set_cons_succ]))
    refine mix_nil ?_
    replace hS1 := hS1.ext (grow_ext x)
    replace hB1 := hB1.ext (grow_ext x)
    replace hE1 := hE1.trans (grow_ext x)
    clear cs c0 cw hlt hgl hbl hw d1
    generalize grow w1 x = w2 at *
    have cs := hS1.c
    have c0 := hB1.c0
    have hlt := hB1.lt
    have hgl := hS1.lt
    go_wp2_with fail
    refine region_bar0 7 (by kernel_rfl) (by kernel_rfl) (fun x => ?_)
    repeat (first | (refine bar_quiet (by decide +kernel) (by rfl) (by rfl) (fun K hK => ?_); go_big_quiet_op; refine hK _ ?_; clear hK K) | (refine bar_still (by rfl) (by rfl) (fun K hK => ?_); go_big_quiet_op; refine hK _ ?_; clear hK K) | (refine bar_skip (by rfl) ?_; simp only [Act.put, List.setIfInBounds_toArray, List.set_cons_zero, List.set_cons_succ]))
    refine bar_row (by decide +kernel) (by rfl) (by rfl) 30 (.tmp 3) rfl w.heap.size (by rfl) 30 _ _ hB1 Tryz.underlying30 rfl (Seal.size_fz f hf) ?_
    simp only [Act.put, List.setIfInBounds_toArray, List.set_cons_zero, List.set_cons_succ]
    refine bar_loud (by rfl) (by rfl) (fun K E hK => ?_)
    refine wp_buildFz _ rfl f hf rfl ?_
    obtain ⟨x2, hx2⟩ := more_of ((grow_ext x).alloc (.cells (flatF [f]).toArray 30))
    refine hK _ _ ⟨x2, hx2⟩ ?_; clear hK K E hx2 x2
    simp only [Act.put, List.setIfInBounds_toArray, List.set_cons_zero, List.set_cons_succ]
    have hS2 := hS1.ext (grow_ext x)
    have hE2 := hE1.trans (grow_ext x)
    have hz := hE2.size
    clear hS1 hE1 cs c0 hB1
    refine bar_last (by decide) (by rfl) (by rfl) (fun K E hK => ?_)
    refine append_fz (.tmp 43) (.tmp 45) rfl (.slice (some ⟨b, off, none⟩) l.length cap) l f rfl rfl hf (by omega) base (by omega) l.length rfl hS2.2 fun A5 c5 w7 hO5 hG5 => ?_
    refine hK _ _ ?_; clear hK K E
    simp only [Act.put, List.setIfInBounds_toArray, List.set_cons_zero, List.set_cons_succ]
    have hB5 := (Blk.alloc hS2.1 (.cells (flatF [f]).toArray 30)).kept (Keep.of_grown (S := fun i => i = gs) hG5 (fun i hi e => own_blk_ne hS2.2 hS2.1 (by decide) (by rw [hi, e]))) rfl
    have hK5 : Keep (fun k => k ≠ gs ∧ (Value.slice (some ⟨b, off, none⟩) l.length cap).ownBlock ≠ some k) w w7 := ((Keep.of_ext hE2).alloc (.cells (flatF [f]).toArray 30)).trans (Keep.of_grown hG5 (fun i hi hs => hs.2 hi))
    have b1 : w7.cell? ⟨gs, 0, none⟩ = some (.slice (some ⟨b, off, none⟩) l.length cap) := Blk.cell hB5 0
    have f1 : w7.frozen? ⟨gs, 0, none⟩ = false := Blk.frozen hB5 0
    have HB5 := Lib.hid hB5; have HK5 := Lib.hid hK5; have HO5 := Lib.hid hO5
    clear hB5 hK5 hG5 hO5 hS2
    repeat (first | (refine bar_quiet (by decide +kernel) (by rfl) (by rfl) (fun K hK => ?_); go_big_quiet_op; refine hK _ ?_; clear hK K) | (refine bar_still (by rfl) (by rfl) (fun K hK => ?_); go_big_quiet_op; refine hK _ ?_; clear hK K) | (refine bar_skip (by rfl) ?_; simp only [Act.put, List.setIfInBounds_toArray, List.set_cons_zero, List.set_cons_succ]))
    (refine bar_last (by decide) (by rfl) (by rfl) (fun K E hK => ?_); go_big_op; refine hK _ _ ?_; clear hK K E)
    refine bar_nil ?_
    have hO8 := World.ownsRow.kept HO5.out (row := some gs) (w' := w7.setCell ⟨gs, 0, none⟩ (.slice A5 (l.length + 1) c5)) ((Upd.refl gs w7).setCell (.inl rfl) _) (.inr (own_blk_ne HO5.out HB5.out (by decide)))
    have hB8 := Blk.set_ HB5.out 0 (.slice A5 (l.length + 1) c5)
    have hK8 : Keep (fun k => k ≠ gs ∧ (Value.slice (some ⟨b, off, none⟩) l.length cap).ownBlock ≠ some k) w (w7.setCell ⟨gs, 0, none⟩ (.slice A5 (l.length + 1) c5)) := HK5.out.setCell (p := ⟨gs, 0, none⟩) (fun h => h.1 rfl) _
    have c8 : (w7.setCell ⟨gs, 0, none⟩ (.slice A5 (l.length + 1) c5)).cell? ⟨gs, 0, none⟩ = some (.slice A5 (l.length + 1) c5) := Blk.cell hB8 0
    have i5 : ((l.length + 1 : Nat) : Int) - 1 = (l.length : Int) := by omega
    have i6 : (l.length : Int) + 1 - 1 = (l.length : Int) := by omega
    have hS8 : SupAt (w7.setCell ⟨gs, 0, none⟩ (.slice A5 (l.length + 1) c5)) gs base (l ++ [f]) (.slice A5 (l.length + 1) c5) := ⟨hB8, by rw [List.length_append]; exact hO8⟩
    clear HB5 HK5 HO5 b1 f1 hO8 hB8
    generalize w7.setCell ⟨gs, 0, none⟩ (.slice A5 (l.length + 1) c5) = w8 at *
    go_wp2_with fail
    go_ret2
    exact ⟨rfl, ⟨_, hS8⟩, hK8⟩
  · skip
    have i1 : ¬ (0 : Int) < (l.length : Int) := by omega
    go_wp2_with fail
    refine region_mix0 (by kernel_rfl) (by kernel_rfl) (fun x => ?_)
    repeat (first | (refine mix_quiet (by rfl) (by rfl) (fun K hK => ?_); go_big_quiet_op; refine hK _ ?_; clear hK K) | (refine mix_skip (by rfl) ?_; simp only [Act.put, List.setIfInBounds_toArray, List.set_cons_zero, List.set_cons_succ]))
    refine mix_nil ?_
    replace hS1 := hS1.ext (grow_ext x)
    replace hB1 := hB1.ext (grow_ext x)
    replace hE1 := hE1.trans (grow_ext x)
    clear cs c0 hlt hgl
    generalize grow w1 x = w2 at *
    have cs := hS1.c
    have c0 := hB1.c0
    have hlt := hB1.lt
    have hgl := hS1.lt
    go_wp2_with fail
    refine region_bar0 7 (by kernel_rfl) (by kernel_rfl) (fun x => ?_)
    repeat (first | (refine bar_quiet (by decide +kernel) (by rfl) (by rfl) (fun K hK => ?_); go_big_quiet_op; refine hK _ ?_; clear hK K) | (refine bar_still (by rfl) (by rfl) (fun K hK => ?_); go_big_quiet_op; refine hK _ ?_; clear hK K) | (refine bar_skip (by rfl) ?_; simp only [Act.put, List.setIfInBounds_toArray, List.set_cons_zero, List.set_cons_succ]))
    refine bar_row (by decide +kernel) (by rfl) (by rfl) 30 (.tmp 3) rfl w.heap.size (by rfl) 30 _ _ hB1 Tryz.underlying30 rfl (Seal.size_fz f hf) ?_
    simp only [Act.put, List.setIfInBounds_toArray, List.set_cons_zero, List.set_cons_succ]
    refine bar_loud (by rfl) (by rfl) (fun K E hK => ?_)
    refine wp_buildFz _ rfl f hf rfl ?_
    obtain ⟨x2, hx2⟩ := more_of ((grow_ext x).alloc (.cells (flatF [f]).toArray 30))
    refine hK _ _ ⟨x2, hx2⟩ ?_; clear hK K E hx2 x2
    simp only [Act.put, List.setIfInBounds_toArray, List.set_cons_zero, List.set_cons_succ]
    have hS2 := hS1.ext (grow_ext x)
    have hE2 := hE1.trans (grow_ext x)
    have hz := hE2.size
    clear hS1 hE1 cs c0 hB1
    refine bar_last (by decide) (by rfl) (by rfl) (fun K E hK => ?_)
    refine append_fz (.tmp 43) (.tmp 45) rfl (.slice A l.length cap) l f rfl rfl hf (by omega) base (by omega) l.length rfl hS2.2 fun A5 c5 w7 hO5 hG5 => ?_
    refine hK _ _ ?_; clear hK K E
    simp only [Act.put, List.setIfInBounds_toArray, List.set_cons_zero, List.set_cons_succ]
    have hB5 := (Blk.alloc hS2.1 (.cells (flatF [f]).toArray 30)).kept (Keep.of_grown (S := fun i => i = gs) hG5 (fun i hi e => own_blk_ne hS2.2 hS2.1 (by decide) (by rw [hi, e]))) rfl
    have hK5 : Keep (fun k => k ≠ gs ∧ (Value.slice A l.length cap).ownBlock ≠ some k) w w7 := ((Keep.of_ext hE2).alloc (.cells (flatF [f]).toArray 30)).trans (Keep.of_grown hG5 (fun i hi hs => hs.2 hi))
    have b1 : w7.cell? ⟨gs, 0, none⟩ = some (.slice A l.length cap) := Blk.cell hB5 0
    have f1 : w7.frozen? ⟨gs, 0, none⟩ = false := Blk.frozen hB5 0
    have HB5 := Lib.hid hB5; have HK5 := Lib.hid hK5; have HO5 := Lib.hid hO5
    clear hB5 hK5 hG5 hO5 hS2
    repeat (first | (refine bar_quiet (by decide +kernel) (by rfl) (by rfl) (fun K hK => ?_); go_big_quiet_op; refine hK _ ?_; clear hK K) | (refine bar_still (by rfl) (by rfl) (fun K hK => ?_); go_big_quiet_op; refine hK _ ?_; clear hK K) | (refine bar_skip (by rfl) ?_; simp only [Act.put, List.setIfInBounds_toArray, List.set_cons_zero, List.set_cons_succ]))
    (refine bar_last (by decide) (by rfl) (by rfl) (fun K E hK => ?_); go_big_op; refine hK _ _ ?_; clear hK K E)
    refine bar_nil ?_
    have hO8 := World.ownsRow.kept HO5.out (row := some gs) (w' := w7.setCell ⟨gs, 0, none⟩ (.slice A5 (l.length + 1) c5)) ((Upd.refl gs w7).setCell (.inl rfl) _) (.inr (own_blk_ne HO5.out HB5.out (by decide)))
    have hB8 := Blk.set_ HB5.out 0 (.slice A5 (l.length + 1) c5)
    have hK8 : Keep (fun k => k ≠ gs ∧ (Value.slice A l.length cap).ownBlock ≠ some k) w (w7.setCell ⟨gs, 0, none⟩ (.slice A5 (l.length + 1) c5)) := HK5.out.setCell (p := ⟨gs, 0, none⟩) (fun h => h.1 rfl) _
    have c8 : (w7.setCell ⟨gs, 0, none⟩ (.slice A5 (l.length + 1) c5)).cell? ⟨gs, 0, none⟩ = some (.slice A5 (l.length + 1) c5) := Blk.cell hB8 0
    have i5 : ((l.length + 1 : Nat) : Int) - 1 = (l.length : Int) := by omega
    have i6 : (l.length : Int) + 1 - 1 = (l.length : Int) := by omega
    have hS8 : SupAt (w7.setCell ⟨gs, 0, none⟩ (.slice A5 (l.length + 1) c5)) gs base (l ++ [f]) (.slice A5 (l.length + 1) c5) := ⟨hB8, by rw [List.length_append]; exact hO8⟩
    clear HB5 HK5 HO5 b1 f1 hO8 hB8
    generalize w7.setCell ⟨gs, 0, none⟩ (.slice A5 (l.length + 1) c5) = w8 at *
    go_wp2_with fail
    go_ret2
    exact ⟨rfl, ⟨_, hS8⟩, hK8⟩

def leavesF (l : List Fz) : List (List UInt8) := l.map fun f => leafB f.outB
theorem leavesF_all (l : List Fz) : AllH (leavesF l) := fun s hs => by
  obtain ⟨f, _, rfl⟩ := List.mem_map.1 hs
  exact leafB_length _
theorem leavesF_length (l : List Fz) : (leavesF l).length = l.length := by simp [leavesF]
set_option maxHeartbeats 4000000 in
theorem Leaves_calls (gs base : Nat) (l : List Fz) (v : Value) (hla : AllF l) (hn : l.length ≤ 1000) (w : World) (hS : SupAt w gs base l v) :
    Calls Tryz.prog 62 #[.pointer (some ⟨gs, 0, none⟩)] w fun e w' => (∃ v', e = .returned v' ∧ OwnS w' w.heap.size v' (leavesF l)) ∧ Ext w w' := by
  obtain ⟨lv, hlv⟩ : ∃ lv, lv = leavesF l := ⟨_, rfl⟩
  rw [← hlv]
  have hlen : lv.length = l.length := by rw [hlv]; exact leavesF_length l
  have hnx : ∀ (k : Nat) (hk : k < l.length), lv.take (k + 1) = lv.take k ++ [leafB l[k].outB] := fun k hk => by
    rw [List.take_succ_eq_append_getElem (by omega)]
    congr 2
    simp [hlv, leavesF]
  have Hlen := Lib.hid hlen; have Hnx := Lib.hid hnx
  clear hlen hnx hlv
  obtain ⟨A, cap, rfl⟩ := own_slice hS.2
  go_enter Tryz.func62, Tryz.ntmps62
  go_wp2_with fail
  go_loopw [3, 4] (fun s3 s4 wr => ∃ k : Nat, k ≤ l.length ∧ s4 = .int .i64 (k : Int) ∧ wr.ownsRow w.heap.size 28 32 s3 k (flatS (lv.take k)) ∧ Ext w wr) (fun _ s4 _ => l.length - (intOf s4).toNat)
  case atStart => exact ⟨0, Nat.zero_le _, rfl, World.ownsRow_nil _ _ _ _, Ext.refl _⟩
  case round =>
    obtain ⟨wo, rfl⟩ : ∃ wo : World, wo = wr := ⟨_, rfl⟩
    obtain ⟨k, hk, rfl, hown, hE⟩ := hrel
    obtain ⟨A3, c3, rfl⟩ := own_slice hown
    have hS0 := hS.ext hE
    have cs := hS0.c
    by_cases hlt : k < l.length
    · have hlI : (k : Int) < (l.length : Int) := by omega
      have hAo : ∃ b off, A = some ⟨b, off, none⟩ := by
        obtain ⟨b, off, e, _⟩ := Rd.of_own hS.2 (flatF_ne hla hlt)
        exact ⟨b, off, e⟩
      obtain ⟨b, off, rfl⟩ := hAo
      obtain ⟨hbl, hr⟩ := rdf_at (Rd.of_own hS0.2) hla hlt
      have hq := hla.get k hlt
      have HN := Lib.hid (Hnx.out k hlt)
      have Hk := Lib.hid (show (lv.take k).length = k by rw [List.length_take, Hlen.out]; omega)
      generalize l[k] = f at *
      go_wp2_with (refine stop_load 30 (.tmp 20) rfl ?_)
      refine ⟨?_⟩
      refine wpList_load_mid rfl 30 (.tmp 20) rfl b (off + k * 34) (by rfl) (f.cells) _ hr Tryz.underlying30 rfl ((Seal.size_fz f hq).trans (by rw [List.size_toArray])) ?_
      simp only [Act.put, List.setIfInBounds_toArray, List.set_cons_zero, List.set_cons_succ]
      go_wp2_with fail
      change Calls _ _ #[f.v] _ _
      refine (refFreezeLeaf_calls f hq _).mono ?_; rintro e w3 ⟨rfl, e3⟩
      have hz32 : (leafB f.outB).length = 32 := leafB_length _
      generalize leafB f.outB = z at *
      have hown3 := owns_ext hown e3
      have hE3 := hE.trans e3
      have hs3 := hE3.size
      clear hown hE hr hS0 cs e3
      go_wp2_with (refine stop_at 23 rfl ?_)
      refine ⟨?_⟩
      refine wpList_buildSums rfl 1 _ rfl [z] (AllH.cons hz32 AllH.nil) rfl (by decide) (by decide) (by rfl) ?_
      simp only [Act.put, List.setIfInBounds_toArray, List.set_cons_zero, List.set_cons_succ]
      refine append_one rfl (.tmp 14) (.tmp 23) rfl _ (lv.take k) z rfl rfl hz32 (by rw [Hk.out]; omega) w.heap.size (by omega) k Hk.out hown3 hE3 (Nat.le_refl _) fun A5 c5 w5 hO5 hX5 => ?_
      simp only [Act.put, List.setIfInBounds_toArray, List.set_cons_zero, List.set_cons_succ]
      clear hown3 hE3
      go_wp2_with fail
      go_roundw
      case rel => exact ⟨k + 1, by omega, by go_num, by rw [HN.out]; exact hO5, hX5⟩
      case measure => simp [intOf]; omega
    · obtain rfl : k = l.length := by omega
      rw [List.take_of_length_le (Nat.le_of_eq Hlen.out), ← Hlen.out] at hown
      have hs := OwnS.of_own hown
      have HL := Hlen.out
      have hs2 : OwnS wo w.heap.size (.slice A3 l.length c3) lv := by rw [← HL]; exact hs
      clear hown hs HL
      go_wp2_with fail
      go_ret
      exact ⟨⟨_, rfl, hs2⟩, hE⟩

set_option maxHeartbeats 2000000 in
theorem supPath_calls (gs base : Nat) (l : List Fz) (v : Value) (hla : AllF l) (hn : l.length ≤ 1000) (i : Nat) (hi : i < l.length) (w : World) (hS : SupAt w gs base l v) :
    Calls Tryz.prog 26 #[.pointer (some ⟨gs, 0, none⟩), .int .i64 (i : Int), .int .i64 (l.length : Int)] w fun e w' => (∃ v', e = .returned (.tuple #[v', .int .i64 0]) ∧ SlS w' w'.heap.size v' (pathS (leavesF l) i)) ∧ Ext w w' := by
  obtain ⟨A, cap, rfl⟩ := own_slice hS.2
  have cs := hS.c
  have hLL := leavesF_length l
  have hLA := leavesF_all l
  have HLV := fun w h => Leaves_calls gs base l (.slice A l.length cap) hla hn w h
  generalize leavesF l = lv at *
  have i1 : ¬ (l.length : Int) < 1 := by omega
  have i2 : ¬ (l.length : Int) < (l.length : Int) := by omega
  have i3 : ¬ (i : Int) < 0 := by omega
  have i4 : decide ((l.length : Int) ≤ (i : Int)) = false := by simp; omega
  have H1 := Lib.hid HLV; have H2 := Lib.hid hLL
  clear HLV hLL
  go_enter Tryz.func26, Tryz.ntmps26
  go_wp2_with fail
  refine (H1.out _ hS).mono ?_; rintro e w1 ⟨⟨v1, rfl, hO⟩, e1⟩
  have hSl := hO.sl
  obtain ⟨A1, c1, rfl, hA1, hc1, hc63, hr1⟩ := hSl
  have hL2 := H2.out
  have hSl2 : SlS w1 w1.heap.size (.slice A1 l.length c1) lv := ⟨A1, c1, by rw [hL2], hA1, hc1, hc63, hr1⟩
  have hcc : l.length ≤ c1 := by omega
  have hcI : (l.length : Int) ≤ (c1 : Int) := by omega
  have HS2 := Lib.hid hSl2
  rw [hL2]
  clear hL2 hSl2 hr1 hA1 hc1 hO
  go_wp2_with fail
  refine (refPath_calls _ lv i (by rw [H2.out]; omega) (by rw [H2.out]; exact hi) hLA _ HS2.out).mono ?_; rintro e w2 ⟨v', rfl, hP, e2⟩
  go_wp2_with fail
  go_ret2
  exact ⟨⟨_, rfl, hP⟩, e1.trans e2⟩

set_option maxHeartbeats 2000000 in
theorem supHead_calls (gs base : Nat) (l : List Fz) (v : Value) (hla : AllF l) (hn : l.length ≤ 1000) (key : List UInt8) (hk : key.length ≤ 4611686018427387904) (clock : Int) (w : World) (hS : SupAt w gs base l v) :
    Calls Tryz.prog 27 #[.pointer (some ⟨gs, 0, none⟩), .string (bs key), .int .i64 clock] w fun e w' => e = .returned (Seal.Hd.sign key (l.length : Int) (rootS (leavesF l)) clock).v ∧ Ext w w' := by
  obtain ⟨A, cap, rfl⟩ := own_slice hS.2
  have hLA := leavesF_all l
  have HLV := fun w h => Leaves_calls gs base l (.slice A l.length cap) hla hn w h
  generalize leavesF l = lv at *
  have hR0 : HdAt (w.alloc (.cells Seal.zH.cells.toArray 32)) w.heap.size Seal.zH := Blk.new w 32 _
  have hE0 : Ext w (w.alloc (.cells Seal.zH.cells.toArray 32)) := (Ext.refl w).alloc _
  have hS0 := hS.ext hE0
  have hrl := rootS_length lv hLA
  obtain ⟨hd, hhd⟩ : ∃ h, h = Seal.Hd.sign key (l.length : Int) (rootS lv) clock := ⟨_, rfl⟩
  have HH := fun w => refHead_calls key hk (l.length : Int) clock (rootS lv) hrl w
  rw [← hhd] at HH ⊢
  have h1 : hd.root.length = 32 := by rw [hhd]; exact hrl
  have h2 : hd.mac.length = 32 := by rw [hhd]; exact Seal.signB_length _ _ _
  have H1 := Lib.hid HLV; have H2 := Lib.hid HH; have H3 := Lib.hid hhd
  clear HLV HH hhd
  unfold Seal.Hd.v
  go_enter Tryz.func27, Tryz.ntmps27
  go_wp2_with fail
  change (Code.region _ _ _).wp _ _ _ (w.alloc (.cells Seal.zH.cells.toArray 32))
  generalize (w.alloc (.cells Seal.zH.cells.toArray 32)) = w0 at *
  have cs := hS0.c
  have hlt := hS0.lt
  have hSx : ∀ z : More w0, SupAt (grow w0 z) gs base l (.slice A l.length cap) := fun z => hS0.ext (grow_ext z)
  refine region_mix 11 (by kernel_rfl) (by kernel_rfl) (fun x0 => ?_); simp only [List.take_succ_cons, List.take_zero, List.drop_succ_cons, List.drop_zero]
  repeat (first | (refine mix_quiet (by rfl) (by rfl) (fun K hK => ?_); go_big_quiet_op; refine hK _ ?_; clear hK K) | (refine mix_skip (by rfl) ?_; simp only [Act.put, List.setIfInBounds_toArray, List.set_cons_zero, List.set_cons_succ]))
  (refine mix_loud (by rfl) (by rfl) (fun K E hK => ?_); go_big_op)
  refine (H1.out _ (hSx _)).mono ?_; rintro e w3 ⟨⟨v1, rfl, hO⟩, hd'⟩
  obtain ⟨x1, rfl⟩ := more_ext x0 hd'
  refine hK _ _ ⟨_, rfl⟩ ?_; clear hK K E hd'
  (refine mix_loud (by rfl) (by rfl) (fun K E hK => ?_); go_big_op)
  refine (refRoot_calls v1 lv hLA _ hO.sl).mono ?_; rintro e w3 ⟨rfl, hd'⟩
  clear hO
  obtain ⟨x2, rfl⟩ := more_ext x1 hd'
  refine hK _ _ ⟨_, rfl⟩ ?_; clear hK K E hd'
  repeat (first | (refine mix_quiet (by rfl) (by rfl) (fun K hK => ?_); go_big_quiet_op; refine hK _ ?_; clear hK K) | (refine mix_skip (by rfl) ?_; simp only [Act.put, List.setIfInBounds_toArray, List.set_cons_zero, List.set_cons_succ]))
  (refine mix_loud (by rfl) (by rfl) (fun K E hK => ?_); go_big_op)
  refine (H2.out _).mono ?_; rintro e w3 ⟨rfl, hd'⟩
  obtain ⟨x3, rfl⟩ := more_ext x2 hd'
  refine hK _ _ ⟨_, rfl⟩ ?_; clear hK K E hd'
  refine mix_nil ?_
  have hRg := hR0.ext (grow_ext x3)
  have hEg := hE0.trans (grow_ext x3)
  generalize grow w0 x3 = w4 at *
  clear hSx hS0 cs
  refine wpList_store_row rfl 32 (.tmp 6) (.tmp 17) rfl w.heap.size hd.cells.toArray (by rfl) (by rfl) 32 _ hRg (Seal.size_hd hd h1 h2) (by simp only [List.size_toArray]; rw [Seal.Hd.cells_length hd h1 h2]; rfl) (all_oneCell_toArray (Seal.Hd.one hd)) ?_
  simp only [Act.put, List.setIfInBounds_toArray, List.set_cons_zero, List.set_cons_succ]
  go_wp2_with fail
  (try simp only [Exit.inBlock, Exit.then])
  exact bodyPost_ret (results_cell_row rfl _ _ w.heap.size 32 _ (0, 0) _ rfl (Blk.row hRg hd.cells.toArray) Tryz.underlying32 rfl (Seal.size_hd hd h1 h2)) rfl ⟨rfl, hEg.row (Nat.le_refl _) _⟩

end Go.Proofs.YtcgnjdkennkheaaGreatDoor

namespace Go.Proofs.YtcgnjdkennkheaaGreatDoor
open Go.ChangeShapes Go.WideShapes Go.ChangeAt Go.RowKit
open Seal (Fz Hd St Ct)
attribute [local go_sem] bs_size bs_toList2 bs_append bs_extract_end bs_extract_begin bs_get wrap64_b grow_cell grow_frozen

def flatR (l : List Rc) : List Value := l.flatMap Rc.cells
theorem flatR_append (a b : List Rc) : flatR (a ++ b) = flatR a ++ flatR b := by simp [flatR]
theorem flatR_one (f : Rc) : flatR [f] = f.cells := by simp [flatR]
theorem flatR_length : ∀ (l : List Rc), (flatR l).length = l.length * 4
  | [] => rfl
  | f :: l => by
    have h2 := flatR_length l
    unfold flatR at *
    simp only [List.flatMap_cons, List.length_append, List.length_cons, h2]
    simp only [Rc.cells, List.length_cons, List.length_nil]
    omega
theorem rc_one (f : Rc) : ∀ u ∈ f.cells, u.oneCell' = true := fun u hu => by
  simp only [Rc.cells, List.mem_cons, List.not_mem_nil, or_false] at hu
  rcases hu with rfl | rfl | rfl | rfl <;> rfl
theorem flatR_get (l : List Rc) (k : Nat) (hk : k < l.length) (j : Nat) (v : Value) (hv : l[k].cells[j]? = some v) : (flatR l)[k * 4 + j]? = some v := by
  have hs : l = l.take k ++ (l[k] :: l.drop (k + 1)) := by rw [List.getElem_cons_drop, List.take_append_drop]
  have hl : (flatR (l.take k)).length = k * 4 := by
    rw [flatR_length, List.length_take]
    congr 1
    omega
  have hj : j < l[k].cells.length := (List.getElem?_eq_some_iff.1 hv).1
  rw [hs, flatR_append, List.getElem?_append_right (by omega), hl, Nat.add_sub_cancel_left]
  show (flatR ([l[k]] ++ l.drop (k + 1)))[j]? = some v
  rw [flatR_append, flatR_one, List.getElem?_append_left hj, hv]
theorem flatR_ne {l : List Rc} {k : Nat} (hk : k < l.length) : flatR l ≠ [] := fun e => by
  have := flatR_length l
  rw [e] at this
  simp at this
  omega
theorem rdr_at {w : World} {B b off : Nat} {l : List Rc} (h : Rd w B (some ⟨b, off, none⟩) (flatR l)) {k : Nat} (hk : k < l.length) : b < B ∧ w.rangeAt b (off + k * 4) l[k].cells := by
  obtain ⟨b', off', e, hb, hc⟩ := h (flatR_ne hk)
  injection e with e
  injection e with e1 e2
  subst e1 e2
  exact ⟨hb, fun j v hv => by rw [Nat.add_assoc]; exact hc _ v (flatR_get l k hk j v hv)⟩
theorem rc_info : (Tryz.prog.info? 36).map (fun i => (i.size, i.bytes, i.zero.map (·.cells.size))) = some (4, 40, some 4) := by kernel_rfl
theorem info_rc : ∃ i z, Tryz.prog.info? 36 = some i ∧ i.zero = some z ∧ i.size = 4 ∧ i.bytes = 40 ∧ z.cells.size = 4 := by
  have h := rc_info
  cases hi : Tryz.prog.info? 36 with
  | none => rw [hi] at h; cases h
  | some i =>
    rw [hi] at h
    simp only [Option.map_some, Option.some.injEq, Prod.mk.injEq] at h
    obtain ⟨h1, h2, h3⟩ := h
    cases hz : i.zero with
    | none => rw [hz] at h3; cases h3
    | some z =>
      rw [hz] at h3
      simp only [Option.map_some, Option.some.injEq] at h3
      exact ⟨i, z, rfl, hz, h1, h2, h3⟩
theorem wpList_buildRc {ops : Array Oper} {rest : List Oper} {o : Oper} {a : Act} {w : World} {Q : Exit → Act → World → Prop} (hg : o.guard = none) (parts : Array (Nat × Operand)) (ho : o.op = .buildSlice 22 1 parts)
    (f : Rc) (hp : parts.toList.map (fun x => (x.1, a.eval x.2)) = [(0, f.v)])
    (h : wpList Tryz.prog ops Q rest (a.put o.dst (.slice (some ⟨w.heap.size, 0, none⟩) 1 1)) (w.alloc (.cells (flatR [f]).toArray 36))) : wpList Tryz.prog ops Q (o :: rest) a w :=
  wpList_plain hg fun _ hK => by
    obtain ⟨i0, z, hi, hz0, hz1, hz2, hz3⟩ := info_rc
    refine wp_buildSlice 22 36 1 parts ho _ i0 z Tryz.underlying22 hi hz0 (by rw [hz1]; omega) (by rw [hz1]; omega) ?_ (hK _ _ h)
    rw [Array.toList_map, show (parts.toList.map fun (i, x) => (i, a.eval x)) = [(0, f.v)] from hp, hz1]
    have := fill_one (place := fun i => some (i * 4, 4)) (i := 0) (off := 0) (size := 4) rfl f.v [] (((Array.range (1 * 4)).map (z.cells[· % z.cells.size]!)).toList) [] rfl (by simp [Rc.v, Value.cells]) (by simp) []
    rw [List.nil_append, List.append_nil, List.nil_append, List.append_nil, Array.toArray_toList] at this
    rw [flatR_one]
    refine this.trans ?_
    simp [Instr.fill, Rc.v, Value.cells, Rc.cells, strV]
theorem append_rc {ops : Array Oper} {rest : List Oper} {o : Oper} {a : Act} {w w0 : World} {Q : Exit → Act → World → Prop} (hgd : o.guard = none) (s x : Operand) (ho : o.op = .call { callee := .builtin .append, args := #[s, x], argTypes := #[22, 22] })
    (v : Value) (l : List Rc) (y : Rc) (hs : a.eval s = v) (hx : a.eval x = .slice (some ⟨w.heap.size, 0, none⟩) 1 1) (hn : l.length ≤ 1000000) (base : Nat) (hb : base ≤ w.heap.size) (n : Nat) (hln : l.length = n)
    (h : w.ownsRow base 36 4 v n (flatR l)) (hE : Ext w0 w) (hb0 : w0.heap.size ≤ base)
    (hK : ∀ A c w', w'.ownsRow base 36 4 (.slice A (n + 1) c) (n + 1) (flatR (l ++ [y])) → (w.alloc (.cells (flatR [y]).toArray 36)).grownBy w' v.ownBlock → Ext w0 w' → wpList Tryz.prog ops Q rest (a.put o.dst (.slice A (n + 1) c)) w') :
    wpList Tryz.prog ops Q (o :: rest) a (w.alloc (.cells (flatR [y]).toArray 36)) := by
  obtain ⟨i0, z, hi, hz0, hz1, hz2, hz3⟩ := info_rc
  refine wpList_append_own _ hgd s x 22 ho base 36 i0 z 4 40 Tryz.underlying22 hi hz0 hz1 hz2 hz3 (by decide) v n (flatR l) hs (h.alloc _) ⟨w.heap.size, 0, none⟩ 1 1 (y.cells) hx rfl (fun j u hj => ?_) (rc_one y) (by unfold maxLen; omega) (by omega) (by simp; omega) fun v' w' h1 h2 _ => ?_
  · rw [Addr.add_mid, Nat.zero_add, Blk.cell (Blk.new w 36 (flatR [y]).toArray) j, flatR_one]
    simpa using hj
  · obtain ⟨A, c, rfl⟩ := own_slice h1
    rw [← flatR_one, ← flatR_append] at h1
    exact hK A c w' h1 h2 ((hE.alloc _).grown h2 (by have := hE.size; simp; omega) (fun g hg => Nat.le_trans hb0 (h.lt g hg).1))
theorem append_own {ops : Array Oper} {rest : List Oper} {o : Oper} {a : Act} {w w0 : World} {Q : Exit → Act → World → Prop} (hgd : o.guard = none) (s x : Operand) (ho : o.op = .call { callee := .builtin .append, args := #[s, x], argTypes := #[23, 23] })
    (v : Value) (l : List (List UInt8)) (y : List UInt8) (hs : a.eval s = v) (hx : a.eval x = .slice (some ⟨w.heap.size, 0, none⟩) 1 1) (hy : y.length = 32) (hn : l.length ≤ 1000000) (base : Nat) (hb : base ≤ w.heap.size) (n : Nat) (hln : l.length = n)
    (h : w.ownsRow base 28 32 v n (flatS l)) (hE : Ext w0 w) (hb0 : w0.heap.size ≤ base)
    (hK : ∀ A c w', w'.ownsRow base 28 32 (.slice A (n + 1) c) (n + 1) (flatS (l ++ [y])) → (w.alloc (.cells (flatS [y]).toArray 28)).grownBy w' v.ownBlock → Ext w0 w' → wpList Tryz.prog ops Q rest (a.put o.dst (.slice A (n + 1) c)) w') :
    wpList Tryz.prog ops Q (o :: rest) a (w.alloc (.cells (flatS [y]).toArray 28)) := by
  obtain ⟨i0, z, hi, hz0, hz1, hz2, hz3⟩ := info_sum
  refine wpList_append_own _ hgd s x 23 ho base 28 i0 z 32 32 Tryz.underlying23 hi hz0 hz1 hz2 hz3 (by decide) v n (flatS l) hs (h.alloc _) ⟨w.heap.size, 0, none⟩ 1 1 (hcells y) hx (by rw [hcells_length, hy]) (fun j u hj => ?_) (hcells_one y) (by unfold maxLen; omega) (by omega) (by simp; omega) fun v' w' h1 h2 _ => ?_
  · rw [Addr.add_mid, Nat.zero_add, Blk.cell (Blk.new w 28 (flatS [y]).toArray) j, flatS_one]
    simpa using hj
  · obtain ⟨A, c, rfl⟩ := own_slice h1
    rw [← flatS_one, ← flatS_append] at h1
    exact hK A c w' h1 h2 ((hE.alloc _).grown h2 (by have := hE.size; simp; omega) (fun g hg => Nat.le_trans hb0 (h.lt g hg).1))
/-- Two rows of the call's own, of unlike types, lie in unlike blocks. -/
theorem own_apart {w : World} {b1 b2 n1 n2 s1 s2 : Nat} {e1 e2 : TypeId} {v1 v2 : Value} {x1 x2 : List Value} (h1 : w.ownsRow b1 e1 s1 v1 n1 x1) (h2 : w.ownsRow b2 e2 s2 v2 n2 x2) (he : e1 ≠ e2) : ∀ k, v1.ownBlock = some k → v2.ownBlock ≠ some k := fun k hk e => by
  rcases h1.2 with ⟨rfl, _⟩ | ⟨g, cap, cur, rfl, _, hb, _⟩
  · cases hk
  · have : g = k := by simpa [Value.ownBlock] using hk
    subst this
    exact own_blk_ne h2 hb (Ne.symm he) e
theorem built_fz3 (a b : Int) (r : List UInt8) (hr : r.length = 32) : Tryz.prog.built 30 [(0, .int .i64 a), (1, .int .i64 b), (2, sumV r)] = some (Fz.cells ⟨a, b, r⟩).toArray := by
  rw [built_of Tryz.underlying30 zero_fz (pl := [(0, 1), (1, 1), (2, 32)]) (by kernel_rfl)]
  have h1 := fill_one (place := ([(0, 1), (1, 1), (2, 32)].toArray[·]?)) (i := 0) (off := 0) (size := 1) rfl (.int .i64 a) [] [.int .i64 0] ([.int .i64 0] ++ (hcells (List.replicate 32 0) ++ [])) rfl rfl rfl [(1, .int .i64 b), (2, sumV r)]
  refine h1.trans ?_
  have h2 := fill_one (place := ([(0, 1), (1, 1), (2, 32)].toArray[·]?)) (i := 1) (off := 1) (size := 1) rfl (.int .i64 b) [.int .i64 a] [.int .i64 0] (hcells (List.replicate 32 0) ++ []) rfl rfl rfl [(2, sumV r)]
  refine h2.trans ?_
  have h3 := fill_one (place := ([(0, 1), (1, 1), (2, 32)].toArray[·]?)) (i := 2) (off := 2) (size := 32) rfl (sumV r) [.int .i64 a, .int .i64 b] (hcells (List.replicate 32 0)) [] rfl (by simp [sumV, Value.cells, hr]) (by simp [hcells]) []
  refine h3.trans ?_
  simp [Instr.fill, Seal.Fz.cells, sumV, Value.cells, hcells]
theorem built_rc (a b c : Int) (s : List UInt8) : Tryz.prog.built 36 [(0, .int .i64 a), (1, .int .i64 b), (2, .int .i64 c), (3, .string (bs s))] = some #[.int .i64 a, .int .i64 b, .int .i64 c, .string (bs s)] := by rfl
theorem built_ct5 (f : Fz) (hf : f.root.length = 32) (A B : Option Addr) (n m ca cb : Nat) (pl : Int) (h : Hd) (h1 : h.root.length = 32) (h2 : h.mac.length = 32) :
    Tryz.prog.built 34 [(0, f.v), (1, .slice A n ca), (2, .int .i64 pl), (3, .slice B m cb), (4, h.v)] = some (citeC f (.slice A n ca) pl (.slice B m cb) h).toArray := by
  rw [built_of Tryz.underlying34 zero_ct (pl := [(0, 34), (34, 1), (35, 1), (36, 1), (37, 66)]) (by kernel_rfl)]
  have hfl := Seal.Fz.cells_length f hf
  have e1 := fill_one (place := ([(0, 34), (34, 1), (35, 1), (36, 1), (37, 66)].toArray[·]?)) (i := 0) (off := 0) (size := 34) rfl f.v [] (Fz.cells ⟨0, 0, List.replicate 32 0⟩) (.slice none 0 0 :: .int .i64 0 :: .slice none 0 0 :: Seal.zH.cells) rfl (by simp [Seal.Fz.v, Value.cells, hfl]) rfl [(1, .slice A n ca), (2, .int .i64 pl), (3, .slice B m cb), (4, h.v)]
  refine e1.trans ?_
  have e2 := fill_one (place := ([(0, 34), (34, 1), (35, 1), (36, 1), (37, 66)].toArray[·]?)) (i := 1) (off := 34) (size := 1) rfl (.slice A n ca) f.cells [.slice none 0 0] (.int .i64 0 :: .slice none 0 0 :: Seal.zH.cells) hfl.symm rfl rfl [(2, .int .i64 pl), (3, .slice B m cb), (4, h.v)]
  have e3 := fill_one (place := ([(0, 34), (34, 1), (35, 1), (36, 1), (37, 66)].toArray[·]?)) (i := 2) (off := 35) (size := 1) rfl (.int .i64 pl) (f.cells ++ [.slice A n ca]) [.int .i64 0] (.slice none 0 0 :: Seal.zH.cells) (by simp [hfl]) rfl rfl [(3, .slice B m cb), (4, h.v)]
  have e4 := fill_one (place := ([(0, 34), (34, 1), (35, 1), (36, 1), (37, 66)].toArray[·]?)) (i := 3) (off := 36) (size := 1) rfl (.slice B m cb) (f.cells ++ [.slice A n ca, .int .i64 pl]) [.slice none 0 0] Seal.zH.cells (by simp [hfl]) rfl rfl [(4, h.v)]
  have e5 := fill_one (place := ([(0, 34), (34, 1), (35, 1), (36, 1), (37, 66)].toArray[·]?)) (i := 4) (off := 37) (size := 66) rfl h.v (f.cells ++ [.slice A n ca, .int .i64 pl, .slice B m cb]) Seal.zH.cells [] (by simp [hfl]) (by simp [Seal.Hd.v, Value.cells, Seal.Hd.cells_length h h1 h2]) rfl []
  simp only [List.append_assoc, List.cons_append, List.nil_append, Value.cells] at e2 e3 e4 e5 ⊢
  simp only [Seal.Fz.v, Seal.Hd.v, Value.cells, List.append_nil] at e2 e3 e4 e5 ⊢
  refine (show _ = _ from ?_)
  first
    | exact (e2.trans (e3.trans (e4.trans e5))).trans (by simp [Instr.fill, citeC])
    | simp_all [Instr.fill, citeC]
theorem and1023 (t : Int) : IntKind.i64.wrap ((BitVec.ofInt 64 t &&& BitVec.ofInt 64 1023).toNat : Int) = t % 1024 := by
  have h1 : (BitVec.ofInt 64 t &&& BitVec.ofInt 64 1023).toNat = (t % 1024).toNat := by
    rw [BitVec.toNat_and, show (BitVec.ofInt 64 1023).toNat = 2 ^ 10 - 1 from by decide, Nat.and_two_pow_sub_one_eq_mod, BitVec.toNat_ofInt]
    omega
  rw [h1]
  have h2 : ((t % 1024).toNat : Int) = t % 1024 := by omega
  rw [h2]
  exact i64_eq rfl (by omega) (by omega)

end Go.Proofs.YtcgnjdkennkheaaGreatDoor

namespace Go.Proofs.YtcgnjdkennkheaaGreatDoor
open Go.ChangeShapes Go.WideShapes Go.ChangeAt Go.RowKit
open Seal (Fz Hd St Ct)
attribute [local go_sem] bs_size bs_toList2 bs_append bs_extract_end bs_extract_begin bs_get wrap64_b grow_cell grow_frozen

/-- A world by plain numbers. -/
structure Wd where
  recs : List Rc
  ahead : List (List UInt8)
  behind : List (List UInt8)
  which : Int
  key : List UInt8
def rowF (n0 cnt : Int) (l : List (List UInt8)) : List Fz := l.zipIdx.map fun x => ⟨n0 + (x.2 : Int), cnt, x.1⟩
def rcs (l : List Rc) : List Rc := l.zipIdx.map fun x => ⟨20, (x.2 : Int), x.1.time % 1024, x.1.pay.take 60⟩
theorem rowF_length (n0 cnt : Int) (l : List (List UInt8)) : (rowF n0 cnt l).length = l.length := by simp [rowF]
theorem rcs_length (l : List Rc) : (rcs l).length = l.length := by simp [rcs]
theorem rowF_take (n0 cnt : Int) (l : List (List UInt8)) (i : Nat) (hi : i < l.length) : rowF n0 cnt (l.take (i + 1)) = rowF n0 cnt (l.take i) ++ [⟨n0 + (i : Int), cnt, l[i]⟩] := by
  unfold rowF
  rw [List.take_succ_eq_append_getElem hi, List.zipIdx_append, List.map_append]
  congr 1
  simp only [List.length_take, List.zipIdx_cons, List.zipIdx_nil, List.map_cons, List.map_nil]
  congr 3
  omega
theorem rcs_take (l : List Rc) (i : Nat) (hi : i < l.length) : rcs (l.take (i + 1)) = rcs (l.take i) ++ [⟨20, (i : Int), l[i].time % 1024, l[i].pay.take 60⟩] := by
  unfold rcs
  rw [List.take_succ_eq_append_getElem hi, List.zipIdx_append, List.map_append]
  congr 1
  simp only [List.length_take, List.zipIdx_cons, List.zipIdx_nil, List.map_cons, List.map_nil]
  congr 3
  omega
theorem rowF_mem {n0 cnt : Int} {l : List (List UInt8)} {g : Fz} (h : g ∈ rowF n0 cnt l) : n0 ≤ g.win ∧ g.win < n0 + (l.length : Int) ∧ g.cnt = cnt ∧ g.root ∈ l := by
  unfold rowF at h
  obtain ⟨x, hx, rfl⟩ := List.mem_map.1 h
  have h1 := List.mem_zipIdx hx
  refine ⟨by simp; omega, ?_, rfl, ?_⟩
  · have := h1.2.1
    simp
    omega
  · rw [h1.2.2]
    exact List.getElem_mem _
theorem rowF_all {n0 cnt : Int} {l : List (List UInt8)} (hl : AllH l) : AllF (rowF n0 cnt l) := fun g hg => hl _ (rowF_mem hg).2.2.2
namespace Wd
def rl (w : Wd) : List Rc := w.recs.take 10
def rows (w : Wd) : List Rc := rcs w.rl
def leaves (w : Wd) : List (List UInt8) := w.rows.map fun r => leafB r.outB
def fz (w : Wd) : Fz := ⟨20, (w.rl.length : Int), rootS w.leaves⟩
def fl (w : Wd) : List Fz := rowF 0 1 (w.ahead.take 8) ++ [w.fz] ++ rowF 30 2 (w.behind.take 8)
def place (w : Wd) : Nat := (w.ahead.take 8).length
def k (w : Wd) : Nat := (w.which.tmod (w.rl.length : Int)).natAbs
def hd (w : Wd) : Hd := Hd.sign (w.key.take 40) (w.fl.length : Int) (rootS (leavesF w.fl)) 99
def cite (w : Wd) : Ct := ⟨w.fz, pathS w.leaves w.k, (w.place : Int), pathS (leavesF w.fl) w.place, w.hd⟩
def rec_ (w : Wd) : Rc := w.rows.getD w.k ⟨0, 0, 0, []⟩
end Wd
theorem Ext.keepS {w a b : World} {gs : Nat} {v : Value} (hE : Ext w a) (hK : Keep (fun k => k ≠ gs ∧ v.ownBlock ≠ some k) a b) (hgs : w.heap.size ≤ gs) (hv : ∀ k, v.ownBlock = some k → w.heap.size ≤ k) : Ext w b :=
  ⟨hK.os.trans hE.os, hK.tape.trans hE.tape, hK.output.trans hE.output, Nat.le_trans hE.size hK.size, fun k hk => (hK.block k (Nat.lt_of_lt_of_le hk hE.size) ⟨by omega, fun e => by have := hv k e; omega⟩).trans (hE.block k hk)⟩
/-- What lies ahead of the rows: the world, the results' variables. -/
def BaseW (w wr : World) (p q s : Value) (wh : Int) (key : List UInt8) : Prop :=
  Blk wr w.heap.size 25 #[p, q, s, .int .i64 wh, .string (bs key)] ∧ CiteAt wr (w.heap.size + 1) Seal.zF (.slice none 0 0) 0 (.slice none 0 0) Seal.zH ∧ RecAt wr (w.heap.size + 2) ⟨0, 0, 0, []⟩ ∧ Ext w wr
theorem BaseW.ext {w wr wr' : World} {p q s : Value} {wh : Int} {key : List UInt8} (h : BaseW w wr p q s wh key) (e : Ext wr wr') : BaseW w wr' p q s wh key :=
  ⟨Blk.below h.1 e (Blk.lt h.1), h.2.1.ext e, h.2.2.1.ext e, h.2.2.2.trans e⟩
theorem BaseW.keep {w wr wr' : World} {p q s v : Value} {wh : Int} {key : List UInt8} {gs base : Nat} {l : List Fz} (h : BaseW w wr p q s wh key) (hS : SupAt wr gs base l v) (hg : w.heap.size + 3 ≤ gs) (hb : w.heap.size ≤ base) (hK : Keep (fun k => k ≠ gs ∧ v.ownBlock ≠ some k) wr wr') : BaseW w wr' p q s wh key :=
  ⟨Blk.kept h.1 hK ⟨by omega, own_blk_ne hS.2 h.1 (by decide)⟩, Blk.kept h.2.1 hK ⟨by omega, own_blk_ne hS.2 h.2.1 (by decide)⟩, Blk.kept h.2.2.1 hK ⟨by omega, own_blk_ne hS.2 h.2.2.1 (by decide)⟩,
    Ext.keepS h.2.2.2 hK (by omega) (fun k hk => Nat.le_trans hb (hS.2.lt k hk).1)⟩
theorem BaseW.cells {w wr : World} {p q s : Value} {wh : Int} {key : List UInt8} (h : BaseW w wr p q s wh key) : wr.cell? ⟨w.heap.size, 0, none⟩ = some p ∧ wr.cell? ⟨w.heap.size, 1, none⟩ = some q ∧ wr.cell? ⟨w.heap.size, 2, none⟩ = some s ∧ wr.cell? ⟨w.heap.size, 3, none⟩ = some (.int .i64 wh) ∧ wr.cell? ⟨w.heap.size, 4, none⟩ = some (.string (bs key)) :=
  ⟨Blk.cell h.1 0, Blk.cell h.1 1, Blk.cell h.1 2, Blk.cell h.1 3, Blk.cell h.1 4⟩
theorem res_three {P : Program} {fn : Func} {p q u : Tmp} {ty ty2 : TypeId} (h : fn.results = #[.cell p ty, .cell q ty2, .tmp u]) (tmps : Array Value) (w : World) (g g2 : Nat) (t t2 : TypeId) (cs cs2 : Array Value) (d d2 : TypeDesc)
    (hp : tmps.getD p undef = .pointer (some ⟨g, 0, none⟩)) (hg : Blk w g t cs) (hu : P.underlying ty = some d) (hd : (match d with | .struct _ | .array _ _ => true | _ => false) = true) (hi : (P.info? ty).map (·.size) = some cs.size)
    (hq : tmps.getD q undef = .pointer (some ⟨g2, 0, none⟩)) (hg2 : Blk w g2 t2 cs2) (hu2 : P.underlying ty2 = some d2) (hd2 : (match d2 with | .struct _ | .array _ _ => true | _ => false) = true) (hi2 : (P.info? ty2).map (·.size) = some cs2.size) :
    (results fn tmps).run P w = .ok (.tuple #[.agg cs, .agg cs2, tmps.getD u undef]) w := by
  have hp' : tmps[p]?.getD undef = .pointer (some ⟨g, 0, none⟩) := by simpa using hp
  have hq' : tmps[q]?.getD undef = .pointer (some ⟨g2, 0, none⟩) := by simpa using hq
  simp [results, h, hp', hq', asAddr, run_loadVar_row w g t ty cs (0, 0) d hg hu hd hi, run_loadVar_row w g2 t2 ty2 cs2 (0, 0) d2 hg2 hu2 hd2 hi2]

end Go.Proofs.YtcgnjdkennkheaaGreatDoor

namespace Go.Proofs.YtcgnjdkennkheaaGreatDoor
open Go.ChangeShapes Go.WideShapes Go.ChangeAt Go.RowKit
open Seal (Fz Hd St Ct)
attribute [local go_sem] bs_size bs_toList2 bs_append bs_extract_end bs_extract_begin bs_get wrap64_b grow_cell grow_frozen

theorem short19z_calls (s : List UInt8) (n : Nat) (w : World) (hs : s.length ≤ 9223372036854775807) (hn : n ≤ 9223372036854775807) : Calls Tryz.prog 9 #[.string (bs s), .int .i64 (n : Int)] w fun e w' => e = .returned (.string (bs (s.take n))) ∧ w = w' := short19_calls s n w hs hn
theorem and1023b (t : Int) : bits BinOp.and IntKind.i64 t 1023 = t % 1024 := by
  unfold bits
  exact and1023 t
def lvs (l : List Rc) : List (List UInt8) := (rcs l).map fun r => leafB r.outB
theorem lvs_take (l : List Rc) (i : Nat) (hi : i < l.length) : lvs (l.take (i + 1)) = lvs (l.take i) ++ [leafB (Rc.outB ⟨20, (i : Int), l[i].time % 1024, l[i].pay.take 60⟩)] := by
  unfold lvs
  rw [rcs_take l i hi, List.map_append, List.map_cons, List.map_nil]
theorem lvs_all (l : List Rc) : AllH (lvs l) := fun s hs => by
  obtain ⟨f, _, rfl⟩ := List.mem_map.1 hs
  exact leafB_length _
theorem lvs_length (l : List Rc) : (lvs l).length = l.length := by simp [lvs, rcs_length]
theorem own_low {w : World} {b c size n : Nat} {e : TypeId} {v : Value} {xs : List Value} (h : w.ownsRow b e size v n xs) (hc : c ≤ b) : w.ownsRow c e size v n xs := by
  obtain ⟨hl, h0 | ⟨g, cap, cur, hv, hb, rest⟩⟩ := h
  · exact ⟨hl, .inl h0⟩
  · exact ⟨hl, .inr ⟨g, cap, cur, hv, Nat.le_trans hc hb, rest⟩⟩
theorem keep_row {w w' : World} {b n size gs base : Nat} {e : TypeId} {vr v : Value} {xs : List Value} {l : List Fz} (hR : w.ownsRow b e size vr n xs) (hS : SupAt w gs base l v) (hK : Keep (fun k => k ≠ gs ∧ v.ownBlock ≠ some k) w w') (he1 : e ≠ 65) (he2 : e ≠ 30) : w'.ownsRow b e size vr n xs :=
  owns_keep hR hK (fun k hk => ⟨fun e => own_blk_ne hR hS.1 he1 (by rw [← e]; exact hk), own_apart hR hS.2 he2 k hk⟩)
theorem own_many {w : World} {b n g : Nat} {v : Value} {xs : List Value} {f : Fz} (h : w.ownsRow b 30 34 v n xs) (hn : 2 ≤ n) (hF : FzAt w g f) (hf : f.root.length = 32) : v.ownBlock ≠ some g := fun e => by
  rcases h.2 with ⟨rfl, h0⟩ | ⟨g', cap, cur, rfl, _, hb, hc, _, hsz, _⟩
  · omega
  · have hg : g' = g := by simpa [Value.ownBlock] using e
    subst hg
    have := hb.symm.trans hF
    injection this with this
    injection this with this
    rw [this, List.size_toArray, Seal.Fz.cells_length f hf] at hsz
    omega
theorem Anchor_fresh (gs base gF : Nat) (l : List Fz) (v : Value) (f f0 : Fz) (hf : f.root.length = 32) (hm : f.may) (hla : AllF l) (hn : l.length ≤ 1000) (hlast : ∀ (h : 0 < l.length), l[l.length - 1].win < f.win) (w : World) (hS : SupAt w gs base l v) (hbase : base ≤ w.heap.size)
    (hF : FzAt w gF f0) (hf0 : f0.root.length = 32) (hgF : gF ≠ gs) (hvF : v.ownBlock ≠ some gF) (hnil : l = [] → v = .slice none 0 0) (hbg : base ≤ gF + 1) :
    Calls Tryz.prog 23 #[.pointer (some ⟨gs, 0, none⟩), f.v] w fun e w' => e = .returned (.tuple #[.int .i64 (l.length : Int), .int .i64 0]) ∧ (∃ v', SupAt w' gs base (l ++ [f]) v' ∧ v'.ownBlock ≠ some gF) ∧ Keep (fun k => k ≠ gs ∧ v.ownBlock ≠ some k) w w' ∧ FzAt w' gF f0 := by
  by_cases hl : l = []
  · have hv := hnil hl
    subst hl hv
    have hlt := Blk.lt hF
    refine (Anchor_calls gs (gF + 1) [] (.slice none 0 0) f hf hm hla hn hlast w ⟨hS.1, World.ownsRow_nil _ _ _ _⟩ (by omega)).mono ?_
    rintro e w' ⟨he, ⟨v', hS'⟩, hK⟩
    exact ⟨he, ⟨v', ⟨hS'.1, own_low hS'.2 hbg⟩, fun e => by have := (hS'.2.lt gF e).1; omega⟩, hK, Blk.kept hF hK ⟨hgF, hvF⟩⟩
  · refine (Anchor_calls gs base l v f hf hm hla hn hlast w hS hbase).mono ?_
    rintro e w' ⟨he, ⟨v', hS'⟩, hK⟩
    have hF' : FzAt w' gF f0 := Blk.kept hF hK ⟨hgF, hvF⟩
    have := List.length_pos_iff.2 hl
    exact ⟨he, ⟨v', hS', own_many hS'.2 (by rw [List.length_append, List.length_singleton]; omega) hF' hf0⟩, hK, hF'⟩
theorem refPath_own (v : Value) (l : List (List UInt8)) (m : Nat) (hll : l.length ≤ 100000) (hm : m < l.length) (hl : AllH l) (w : World) (hS : SlS w w.heap.size v l) :
    Calls Tryz.prog 25 #[v, .int .i64 (m : Int)] w fun e w' => ∃ v', e = .returned (.tuple #[v', .bool true]) ∧ OwnS w' w.heap.size v' (pathS l m) ∧ Ext w w' := by
  have hS0 := hS
  obtain ⟨A, cap, rfl, -⟩ := hS
  have h0 : ¬ (m : Int) < 0 := by omega
  have h1 : decide ((l.length : Int) ≤ (m : Int)) = false := decide_eq_false (by omega)
  go_enter Tryz.func25, Tryz.ntmps25
  go_wp2_with fail
  refine (refpath_all l.length _ l m rfl hll hm hl w hS0).mono ?_; rintro e w2 ⟨v', rfl, hO, e2⟩
  go_wp2_with fail
  go_ret2
  exact ⟨_, rfl, OwnS.of_own hO, e2⟩
set_option maxHeartbeats 2000000 in
theorem supPath_own (gs base : Nat) (l : List Fz) (v : Value) (hla : AllF l) (hn : l.length ≤ 1000) (i : Nat) (hi : i < l.length) (w : World) (hS : SupAt w gs base l v) :
    Calls Tryz.prog 26 #[.pointer (some ⟨gs, 0, none⟩), .int .i64 (i : Int), .int .i64 (l.length : Int)] w fun e w' => (∃ v', e = .returned (.tuple #[v', .int .i64 0]) ∧ OwnS w' w.heap.size v' (pathS (leavesF l) i)) ∧ Ext w w' := by
  obtain ⟨A, cap, rfl⟩ := own_slice hS.2
  have cs := hS.c
  have hLL := leavesF_length l
  have hLA := leavesF_all l
  have HLV := fun w h => Leaves_calls gs base l (.slice A l.length cap) hla hn w h
  generalize leavesF l = lv at *
  have i1 : ¬ (l.length : Int) < 1 := by omega
  have i2 : ¬ (l.length : Int) < (l.length : Int) := by omega
  have i3 : ¬ (i : Int) < 0 := by omega
  have i4 : decide ((l.length : Int) ≤ (i : Int)) = false := by simp; omega
  have H1 := Lib.hid HLV; have H2 := Lib.hid hLL
  clear HLV hLL
  go_enter Tryz.func26, Tryz.ntmps26
  go_wp2_with fail
  refine (H1.out _ hS).mono ?_; rintro e w1 ⟨⟨v1, rfl, hO⟩, e1⟩
  have hSl := hO.sl
  obtain ⟨A1, c1, rfl, hA1, hc1, hc63, hr1⟩ := hSl
  have hL2 := H2.out
  have hSl2 : SlS w1 w1.heap.size (.slice A1 l.length c1) lv := ⟨A1, c1, by rw [hL2], hA1, hc1, hc63, hr1⟩
  have hcc : l.length ≤ c1 := by omega
  have hcI : (l.length : Int) ≤ (c1 : Int) := by omega
  have HS2 := Lib.hid hSl2
  rw [hL2]
  clear hL2 hSl2 hr1 hA1 hc1 hO
  go_wp2_with fail
  refine (refPath_own _ lv i (by rw [H2.out]; omega) (by rw [H2.out]; exact hi) hLA _ HS2.out).mono ?_; rintro e w2 ⟨v', rfl, hP, e2⟩
  go_wp2_with fail
  go_ret2
  exact ⟨⟨_, rfl, hP.less e1.size⟩, e1.trans e2⟩

theorem own_blk_lt {w : World} {B : Nat} {v : Value} {l : List (List UInt8)} (h : OwnS w B v l) : l ≠ [] → ∀ k, v.ownBlock = some k → k < w.heap.size := fun hl k hk => by
  obtain ⟨A, z, -, -, -, -, o⟩ := h
  exact ((o hl).lt k hk).2
theorem own_blks_ne {w : World} {B : Nat} {p q : Value} {l m : List (List UInt8)} (h : l ≠ [] → ∀ k, p.ownBlock = some k → k < B) (hq : OwnS w B q m) : l ≠ [] → m ≠ [] → p.ownBlock ≠ q.ownBlock := fun hl hm e => by
  obtain ⟨A, z, -, -, -, -, o⟩ := hq
  have o2 := o hm
  rcases o2.2 with ⟨_, h0⟩ | ⟨g, cap, cur, hv, _⟩
  · exact hm (List.eq_nil_of_length_eq_zero h0)
  · have hg : q.ownBlock = some g := by rw [hv]; rfl
    have h1 := (o2.lt g hg).1
    have h2 := h hl g (e.trans hg)
    omega
set_option maxHeartbeats 16000000 in
theorem cited_more2 (wd : Wd) (hpay : ∀ r ∈ wd.recs, r.pay.length ≤ 9223372036854775807) (hkey : wd.key.length ≤ 9223372036854775807) (hah : AllH wd.ahead) (hbh : AllH wd.behind) (A : Option Addr) (ca : Nat) (q s : Value) (hca : wd.recs.length ≤ ca) (hca2 : ca ≤ 9223372036854775807) (w : World) (hr : Rd w w.heap.size A (flatR wd.recs)) (hq : SlS w w.heap.size q wd.ahead) (hs : SlS w w.heap.size s wd.behind) (hne : wd.recs ≠ []) :
    Calls Tryz.prog 8 #[.agg #[.slice A wd.recs.length ca, q, s, .int .i64 wd.which, .string (bs wd.key)]] w fun e w' => ∃ P Q, e = .returned (.tuple #[citeV wd.cite.fz P wd.cite.place Q wd.cite.hd, wd.rec_.v, .bool true]) ∧ OwnS w' w.heap.size P wd.cite.path ∧ OwnS w' w.heap.size Q wd.cite.super ∧ (wd.cite.path ≠ [] → wd.cite.super ≠ [] → P.ownBlock ≠ Q.ownBlock) ∧ Ext w w' := by
  obtain ⟨rl, hrl⟩ : ∃ l, l = wd.rl := ⟨_, rfl⟩
  have hrlt : rl = wd.recs.take 10 := hrl
  have hlen : 0 < wd.recs.length := List.length_pos_iff.2 hne
  have hrn : rl.length = min 10 wd.recs.length := by rw [hrlt, List.length_take]
  have hrp : 0 < rl.length := by omega
  have hrg : ∀ (i : Nat) (h : i < rl.length) (h2 : i < wd.recs.length), rl[i] = wd.recs[i] := fun i h h2 => by
    subst hrlt
    exact List.getElem_take
  have hrc : rl.length ≤ ca := by omega
  obtain ⟨Aq, cq, rfl, hAq, hcq, hcq63, hrq⟩ := id hq
  obtain ⟨As, cs, rfl, hAs, hcs, hcs63, hrs⟩ := id hs
  have hAr : ∃ b off, A = some ⟨b, off, none⟩ := by
    obtain ⟨b, off, e, _⟩ := hr (flatR_ne (k := 0) hlen)
    exact ⟨b, off, e⟩
  obtain ⟨br, offr, rfl⟩ := hAr
  have hB : BaseW w (((w.alloc (.cells #[.slice (some ⟨br, offr, none⟩) wd.recs.length ca, .slice Aq wd.ahead.length cq, .slice As wd.behind.length cs, .int .i64 wd.which, .string (bs wd.key)] 25)).alloc (.cells Tryz.zeroCells34 34)).alloc (.cells #[.int .i64 0, .int .i64 0, .int .i64 0, .string ⟨#[]⟩] 36)) (.slice (some ⟨br, offr, none⟩) wd.recs.length ca) (.slice Aq wd.ahead.length cq) (.slice As wd.behind.length cs) wd.which wd.key := by
    refine ⟨?_, ?_, ?_, (((Ext.refl w).alloc _).alloc _).alloc _⟩
    · exact Blk.alloc (Blk.alloc (Blk.new w _ _) _) _
    · have := Blk.new (w.alloc (.cells #[.slice (some ⟨br, offr, none⟩) wd.recs.length ca, .slice Aq wd.ahead.length cq, .slice As wd.behind.length cs, .int .i64 wd.which, .string (bs wd.key)] 25)) 34 Tryz.zeroCells34
      rw [alloc_size] at this
      exact Blk.alloc (this) _
    · have := Blk.new ((w.alloc (.cells #[.slice (some ⟨br, offr, none⟩) wd.recs.length ca, .slice Aq wd.ahead.length cq, .slice As wd.behind.length cs, .int .i64 wd.which, .string (bs wd.key)] 25)).alloc (.cells Tryz.zeroCells34 34)) 36 #[.int .i64 0, .int .i64 0, .int .i64 0, .string ⟨#[]⟩]
      rw [alloc_size, alloc_size] at this
      exact this
  have hsz : (((w.alloc (.cells #[.slice (some ⟨br, offr, none⟩) wd.recs.length ca, .slice Aq wd.ahead.length cq, .slice As wd.behind.length cs, .int .i64 wd.which, .string (bs wd.key)] 25)).alloc (.cells Tryz.zeroCells34 34)).alloc (.cells #[.int .i64 0, .int .i64 0, .int .i64 0, .string ⟨#[]⟩] 36)).heap.size = w.heap.size + 3 := by simp only [alloc_size]
  have Hrg := Lib.hid hrg; have Hrl := Lib.hid hrl; have Hrn := Lib.hid hrn; have Hrc := Lib.hid hrc
  clear hrg hrl hrn hrlt hrc
  go_enter Tryz.func8, Tryz.ntmps8
  go_upto_if 25 with fail
  change Code.wp _ _ _ _ (((w.alloc (.cells #[.slice (some ⟨br, offr, none⟩) wd.recs.length ca, .slice Aq wd.ahead.length cq, .slice As wd.behind.length cs, .int .i64 wd.which, .string (bs wd.key)] 25)).alloc (.cells Tryz.zeroCells34 34)).alloc (.cells #[.int .i64 0, .int .i64 0, .int .i64 0, .string ⟨#[]⟩] 36))
  generalize (((w.alloc (.cells #[.slice (some ⟨br, offr, none⟩) wd.recs.length ca, .slice Aq wd.ahead.length cq, .slice As wd.behind.length cs, .int .i64 wd.which, .string (bs wd.key)] 25)).alloc (.cells Tryz.zeroCells34 34)).alloc (.cells #[.int .i64 0, .int .i64 0, .int .i64 0, .string ⟨#[]⟩] 36)) = w0 at *
  go_cut [5] (fun s5 wx => s5 = .slice (some ⟨br, offr, none⟩) rl.length ca ∧ w0 = wx)
  case first =>
    by_cases hcut : 10 < wd.recs.length
    · have i1 : (10 : Int) < (wd.recs.length : Int) := by omega
      have i2 : (10 : Int) ≤ (ca : Int) := by omega
      have i3 : 10 ≤ ca := by omega
      have i4 : rl.length = 10 := by rw [Hrn.out]; omega
      have I4 := Lib.hid i4; clear i4
      go_wp2_with fail
      go_meet
      exact ⟨by rw [I4.out], rfl⟩
    · have i1 : ¬ (10 : Int) < (wd.recs.length : Int) := by omega
      have i4 : rl.length = wd.recs.length := by rw [Hrn.out]; omega
      have I4 := Lib.hid i4; clear i4
      go_wp2_with fail
      go_meet
      exact ⟨by rw [I4.out], rfl⟩
  case rest =>
  obtain ⟨rfl, rfl⟩ := hcut
  have j0 : ((rl.length : Int) == 0) = false := by rw [beq_eq_false_iff_ne]; omega
  obtain ⟨k0, k1, k2, k3, k4⟩ := hB.cells
  go_upto_block 0 with fail
  have hS0 : SupAt (w0.alloc (.cells #[.slice none 0 0] 65)) (w.heap.size + 3) (w.heap.size + 4) [] (.slice none 0 0) := ⟨by have := Blk.new w0 65 #[.slice none 0 0]; rw [hsz] at this; exact this, World.ownsRow_nil _ _ _ _⟩
  have e1 : Ext w0 (w0.alloc (.cells #[.slice none 0 0] 65)) := (Ext.refl w0).alloc _
  have hz1 : w.heap.size + 4 ≤ (w0.alloc (.cells #[.slice none 0 0] 65)).heap.size := by simp only [alloc_size]; omega
  replace hB := hB.ext e1
  clear k0 k1 k2 k3 k4 j0 e1 hsz
  generalize w0.alloc (.cells #[.slice none 0 0] 65) = w1 at *
  obtain ⟨a8, ha8⟩ : ∃ l, l = wd.ahead.take 8 := ⟨_, rfl⟩
  have ha8n : a8.length = min 8 wd.ahead.length := by rw [ha8, List.length_take]
  have ha8g : ∀ (i : Nat) (h : i < a8.length) (h2 : i < wd.ahead.length), a8[i] = wd.ahead[i] := fun i h h2 => by
    subst ha8
    exact List.getElem_take
  have hA8 : AllH a8 := by rw [ha8]; exact hah.take _
  have Ha8 := Lib.hid ha8; have Ha8n := Lib.hid ha8n; have Ha8g := Lib.hid ha8g
  clear ha8 ha8n ha8g
  go_cut [] (fun wx => BaseW w wx (.slice (some ⟨br, offr, none⟩) wd.recs.length ca) (.slice Aq wd.ahead.length cq) (.slice As wd.behind.length cs) wd.which wd.key ∧ (∃ v, SupAt wx (w.heap.size + 3) (w.heap.size + 4) (rowF 0 1 a8) v ∧ (a8 = [] → v = .slice none 0 0)) ∧ w.heap.size + 4 ≤ wx.heap.size)
  case first =>
    go_wp2_with fail
    go_loopw [7] (fun s7 wr => ∃ i : Nat, i ≤ a8.length ∧ s7 = .int .i64 (i : Int) ∧ BaseW w wr (.slice (some ⟨br, offr, none⟩) wd.recs.length ca) (.slice Aq wd.ahead.length cq) (.slice As wd.behind.length cs) wd.which wd.key ∧ (∃ v, SupAt wr (w.heap.size + 3) (w.heap.size + 4) (rowF 0 1 (a8.take i)) v ∧ (i = 0 → v = .slice none 0 0)) ∧ w.heap.size + 4 ≤ wr.heap.size) (fun s7 _ => 8 - (intOf s7).toNat)
    case atStart => exact ⟨0, Nat.zero_le _, rfl, hB, ⟨_, hS0, fun _ => rfl⟩, hz1⟩
    case round =>
      clear hB hS0 hz1
      obtain ⟨wo, rfl⟩ : ∃ wo : World, wo = wr := ⟨_, rfl⟩
      obtain ⟨i, hi, rfl, hB, ⟨v, hS, hv0⟩, hz⟩ := hrel
      obtain ⟨-, k1, -, -, -⟩ := hB.cells
      by_cases hlt : i < a8.length
      · have hia : i < wd.ahead.length := by have := Ha8n.out; omega
        have hi8 : i < 8 := by have := Ha8n.out; omega
        have j1 : (i : Int) < (wd.ahead.length : Int) := by omega
        have j2 : (i : Int) < 8 := by omega
        have hAo : ∃ b off, Aq = some ⟨b, off, none⟩ := by
          rcases hAq with ⟨_, hl0, _⟩ | h
          · rw [hl0] at hia; simp at hia
          · exact h
        obtain ⟨bq, offq, rfl⟩ := hAo
        obtain ⟨hbl, hm⟩ := rds_at (hrq.below hB.2.2.2 (Nat.le_refl _)) hah hia
        have hx := hah.get i hia
        have HR := Lib.hid (show rowF 0 1 (a8.take (i + 1)) = rowF 0 1 (a8.take i) ++ [⟨(i : Int), 1, wd.ahead[i]⟩] by rw [rowF_take 0 1 a8 i hlt, Int.zero_add, Ha8g.out i hlt hia])
        have hlast : ∀ (h : 0 < (rowF 0 1 (a8.take i)).length), (rowF 0 1 (a8.take i))[(rowF 0 1 (a8.take i)).length - 1].win < (i : Int) := fun h => by
          have h2 := (rowF_mem (List.getElem_mem (show (rowF 0 1 (a8.take i)).length - 1 < (rowF 0 1 (a8.take i)).length by omega))).2.1
          rw [List.length_take] at h2
          omega
        have hln : (rowF 0 1 (a8.take i)).length ≤ 1000 := by rw [rowF_length, List.length_take]; omega
        have hall := rowF_all (n0 := 0) (cnt := 1) (hA8.take i)
        generalize wd.ahead[i] = y at *
        have hmay : Seal.Fz.may ⟨(i : Int), 1, y⟩ := by unfold Seal.Fz.may; simp only; omega
        have HL := Lib.hid hlast; clear hlast
        go_wp2_with (refine stop_load 28 (.tmp 51) rfl ?_)
        refine ⟨?_⟩
        refine wpList_load_mid rfl 28 (.tmp 51) rfl bq ((offq + i * 32)) (by rfl) (hcells y) _ hm Tryz.underlying28 rfl (size32l _ hx) ?_
        simp only [Act.put, List.setIfInBounds_toArray, List.set_cons_zero, List.set_cons_succ]
        unfold hcells
        go_wp2_with (refine stop_at 53 rfl ?_)
        refine ⟨?_⟩
        refine wpList_build_to rfl 30 _ rfl _ (by rw [Array.toList_map]; rfl) _ (built_fz3 (i : Int) 1 y hx) ?_
        simp only [Act.put, List.setIfInBounds_toArray, List.set_cons_zero, List.set_cons_succ]
        go_wp2_with fail
        change Calls _ _ #[_, Seal.Fz.v ⟨(i : Int), 1, y⟩] _ _
        refine (Anchor_calls _ _ (rowF 0 1 (a8.take i)) v ⟨(i : Int), 1, y⟩ hx hmay hall hln HL.out _ hS hz).mono ?_; rintro e w3 ⟨rfl, ⟨v3, hS3⟩, hK3⟩
        rw [← HR.out] at hS3
        have hB3 := hB.keep hS (by omega) (by omega) hK3
        have hz3 := hK3.size
        clear hS hB k1 hm hbl hK3
        go_wp2_with fail
        go_roundw
        case rel => exact ⟨i + 1, by omega, by go_num, hB3, ⟨v3, hS3, fun h => by omega⟩, by omega⟩
        case measure => simp [intOf]; omega
      · obtain rfl : i = a8.length := by omega
        rw [List.take_length] at hS
        by_cases hia : a8.length < wd.ahead.length
        · have j1 : (a8.length : Int) < (wd.ahead.length : Int) := by omega
          have j2 : ¬ (a8.length : Int) < 8 := by have := Ha8n.out; omega
          go_wp2_with fail
          go_meet
          exact ⟨hB, ⟨v, hS, fun h => hv0 (by rw [h]; rfl)⟩, hz⟩
        · have j1 : ¬ (a8.length : Int) < (wd.ahead.length : Int) := by omega
          go_wp2_with fail
          go_meet
          exact ⟨hB, ⟨v, hS, fun h => hv0 (by rw [h]; rfl)⟩, hz⟩
  case rest =>
  clear hB hS0 hz1
  obtain ⟨w2, rfl⟩ : ∃ w2 : World, w2 = wc := ⟨_, rfl⟩
  obtain ⟨hB, ⟨v, hS, hv0⟩, hz⟩ := hcut
  have hz2 := hz
  have hE2 := hB.2.2.2
  go_wp2_with fail
  go_loopw [8, 9, 10] (fun s8 s9 s10 wr => ∃ i : Nat, i ≤ rl.length ∧ s10 = .int .i64 (i : Int) ∧ wr.ownsRow w2.heap.size 36 4 s8 i (flatR (rcs (rl.take i))) ∧ wr.ownsRow w2.heap.size 28 32 s9 i (flatS (lvs (rl.take i))) ∧ Ext w2 wr) (fun _ _ s10 _ => rl.length - (intOf s10).toNat)
  case atStart => exact ⟨0, Nat.zero_le _, rfl, World.ownsRow_nil _ _ _ _, World.ownsRow_nil _ _ _ _, Ext.refl _⟩
  case round =>
    obtain ⟨wo, rfl⟩ : ∃ wo : World, wo = wr := ⟨_, rfl⟩
    obtain ⟨i, hi, rfl, hR, hL, hX⟩ := hrel
    obtain ⟨A8, c8, rfl⟩ := own_slice hR
    obtain ⟨A9, c9, rfl⟩ := own_slice hL
    have hi10 : i ≤ 10 := by have := Hrn.out; omega
    by_cases hlt : i < rl.length
    · have hlI : (i : Int) < (rl.length : Int) := by omega
      have hir : i < wd.recs.length := by have := Hrn.out; omega
      have hEo := hE2.trans hX
      obtain ⟨hbl, hm⟩ := rdr_at (hr.below hEo (Nat.le_refl _)) hir
      have hblo : br < wo.heap.size := Nat.lt_of_lt_of_le hbl hEo.size
      have hpl := hpay _ (List.getElem_mem hir)
      have HN := Lib.hid (show rcs (rl.take (i + 1)) = rcs (rl.take i) ++ [⟨20, (i : Int), wd.recs[i].time % 1024, wd.recs[i].pay.take 60⟩] by rw [rcs_take rl i hlt, Hrg.out i hlt hir])
      have HM := Lib.hid (show lvs (rl.take (i + 1)) = lvs (rl.take i) ++ [leafB (Rc.outB ⟨20, (i : Int), wd.recs[i].time % 1024, wd.recs[i].pay.take 60⟩)] by rw [lvs_take rl i hlt, Hrg.out i hlt hir])
      generalize wd.recs[i] = f at *
      have c2 : wo.cell? ⟨br, offr + i * 4 + 2, none⟩ = some (.int .i64 f.time) := hm 2 _ rfl
      have c3 : wo.cell? ⟨br, offr + i * 4 + 3, none⟩ = some (.string (bs f.pay)) := hm 3 _ rfl
      have han := and1023b f.time
      obtain ⟨tm, htm⟩ : ∃ t, t = f.time % 1024 := ⟨_, rfl⟩
      obtain ⟨py, hpy⟩ : ∃ t, t = f.pay.take 60 := ⟨_, rfl⟩
      have hpyl : py.length ≤ 60 := by rw [hpy, List.length_take]; omega
      rw [← htm] at han HN HM
      rw [← hpy] at HN HM
      have Hpy := Lib.hid hpy
      clear htm hpy hm
      go_wp2_with fail
      refine region_plan 15 (Plan.run [0, 1, 2, 3, 4, 5, 6, 7, 8, 9, 10, 11] (.two 12 14 (Plan.run [13, 14] .nil) (Plan.run [12, 13] .nil))) (by kernel_rfl) (by kernel_rfl) (fun y0 => ?_); simp only [Plan.run, List.drop_succ_cons, List.drop_zero, List.drop_nil]
      iterate 12 (first | (refine plan_quiet (by simp only [List.getElem?_toArray, List.getElem?_cons_zero, List.getElem?_cons_succ]; rfl) (by rfl) (by rfl) (fun K hK => ?_); go_big_quiet_op; refine hK _ ?_; clear hK K) | (refine plan_skip (by simp only [List.getElem?_toArray, List.getElem?_cons_zero, List.getElem?_cons_succ]; rfl) (by rfl) ?_; simp only [Act.put, List.setIfInBounds_toArray, List.set_cons_zero, List.set_cons_succ]))
      have Hcl := Lib.hid (show (rcs (rl.take i)).length = i by rw [rcs_length, List.length_take]; omega)
      have Hll := Lib.hid (show (lvs (rl.take i)).length = i by rw [lvs_length, List.length_take]; omega)
      refine plan_two ?_ ?_
      · skip
        (refine plan_loud (by simp only [List.getElem?_toArray, List.getElem?_cons_zero, List.getElem?_cons_succ]; rfl) (by rfl) (by rfl) (fun K E hK => ?_); go_big_op)
        refine (short19_calls f.pay 60 _ hpl (by omega)).mono ?_; rw [← Hpy.out]; rintro e w' ⟨rfl, rfl⟩
        refine hK _ _ ⟨_, rfl⟩ ?_; clear hK K E
        refine plan_build (by simp only [List.getElem?_toArray, List.getElem?_cons_zero, List.getElem?_cons_succ]; rfl) (by rfl) (by rfl) 36 _ rfl _ (by rw [Array.toList_map]; rfl) _ (built_rc 20 (i : Int) tm py) ?_
        simp only [Act.put, List.setIfInBounds_toArray, List.set_cons_zero, List.set_cons_succ]
        refine plan_one ?_
        (refine plan_loud (by simp only [List.getElem?_toArray, List.getElem?_cons_zero, List.getElem?_cons_succ]; rfl) (by rfl) (by rfl) (fun K E hK => ?_); go_big_op)
        have hN : RecAt ((grow wo y0).alloc (.cells #[.int .i64 0, .int .i64 0, .int .i64 0, .string ⟨#[]⟩] 36)) (grow wo y0).heap.size ⟨0, 0, 0, []⟩ := Blk.new _ _ _
        have hgN : wo.heap.size ≤ (grow wo y0).heap.size := (grow_ext y0).size
        obtain ⟨y1, hy1⟩ := more_of ((grow_ext y0).alloc (.cells #[.int .i64 0, .int .i64 0, .int .i64 0, .string ⟨#[]⟩] 36))
        change K _ ((grow wo y0).alloc (.cells #[.int .i64 0, .int .i64 0, .int .i64 0, .string ⟨#[]⟩] 36))
        rw [hy1] at hN ⊢
        clear hy1
        generalize (grow wo y0).heap.size = gN at *
        refine hK _ _ ⟨_, rfl⟩ ?_; clear hK K E
        refine plan_nil ?_
        have hsz := size_rc ⟨20, (i : Int), tm, py⟩
        have eY := grow_ext y1
        generalize grow wo y1 = w3 at *
        refine wpList_store_row rfl 36 (.tmp 11) (.tmp 74) rfl gN #[.int .i64 20, .int .i64 (i : Int), .int .i64 tm, .string (bs py)] (by rfl) (by rfl) 36 _ hN hsz (by rfl) (by simp [Value.oneCell']) ?_
        simp only [Act.put, List.setIfInBounds_toArray, List.set_cons_zero, List.set_cons_succ]
        have hN2 : RecAt (w3.setRow gN #[.int .i64 20, .int .i64 (i : Int), .int .i64 tm, .string (bs py)]) gN ⟨20, (i : Int), tm, py⟩ := Blk.row hN _
        have e2 : Ext wo (w3.setRow gN #[.int .i64 20, .int .i64 (i : Int), .int .i64 tm, .string (bs py)]) := eY.row hgN _
        have hR2 := owns_ext hR e2
        have hL2 := owns_ext hL e2
        have hX2 := hX.trans e2
        have hk8 := fun k hk => (hR.lt k hk).2
        have hx2s := hX2.size
        clear hR hL hX e2 eY hN c2 c3 han
        generalize w3.setRow gN #[.int .i64 20, .int .i64 (i : Int), .int .i64 tm, .string (bs py)] = w4 at *
        go_wp2_with (refine stop_load 36 (.tmp 11) rfl ?_)
        refine ⟨?_⟩
        refine wpList_load_row rfl 36 (.tmp 11) rfl gN (by rfl) 36 _ (0, 0) _ hN2 Tryz.underlying36 rfl hsz ?_
        simp only [Act.put, List.setIfInBounds_toArray, List.set_cons_zero, List.set_cons_succ]
        refine wpList_buildRc rfl _ rfl ⟨20, (i : Int), tm, py⟩ rfl ?_
        simp only [Act.put, List.setIfInBounds_toArray, List.set_cons_zero, List.set_cons_succ]
        refine append_rc rfl (.tmp 75) (.tmp 77) rfl (.slice A8 i c8) (rcs (rl.take i)) ⟨20, (i : Int), tm, py⟩ rfl rfl (by rw [Hcl.out]; omega) w2.heap.size hx2s i Hcl.out hR2 hX2 (Nat.le_refl _) fun A5 c5 w5 hR5 hG5 hX5 => ?_
        simp only [Act.put, List.setIfInBounds_toArray, List.set_cons_zero, List.set_cons_succ]
        have hL5 := World.ownsRow.kept (hL2.alloc (.cells (flatR [(⟨20, (i : Int), tm, py⟩ : Rc)]).toArray 36)) hG5 (own_ne hL2 hR2 (by decide))
        have hN5 : RecAt w5 gN ⟨20, (i : Int), tm, py⟩ := Blk.grown (Blk.alloc hN2 _) hG5 (fun e => by have := hk8 gN e.symm; omega)
        rw [← HN.out] at hR5
        clear hR2 hL2 hG5 hN2 hX2 hk8
        go_wp2_with (refine stop_load 36 (.tmp 11) rfl ?_)
        refine ⟨?_⟩
        refine wpList_load_row rfl 36 (.tmp 11) rfl gN (by rfl) 36 _ (0, 0) _ hN5 Tryz.underlying36 rfl hsz ?_
        simp only [Act.put, List.setIfInBounds_toArray, List.set_cons_zero, List.set_cons_succ]
        go_wp2_with fail
        change Calls _ _ #[Rc.v ⟨20, (i : Int), tm, py⟩] _ _
        refine (refRecLeaf_calls ⟨20, (i : Int), tm, py⟩ _ (by simp only; omega)).mono ?_; rintro e w6 ⟨rfl, e6⟩
        have hR6 := owns_ext hR5 e6
        have hL6 := owns_ext hL5 e6
        have hX6 := hX5.trans e6
        have hx6s := hX6.size
        have hz32 : (leafB (Rc.outB ⟨20, (i : Int), tm, py⟩)).length = 32 := leafB_length _
        generalize leafB (Rc.outB ⟨20, (i : Int), tm, py⟩) = z at *
        clear hR5 hL5 hX5 hN5 e6
        go_wp2_with (refine stop_at 82 rfl ?_)
        refine ⟨?_⟩
        refine wpList_buildSums rfl 1 _ rfl [z] (AllH.cons hz32 AllH.nil) rfl (by decide) (by decide) (by rfl) ?_
        simp only [Act.put, List.setIfInBounds_toArray, List.set_cons_zero, List.set_cons_succ]
        refine append_own rfl (.tmp 79) (.tmp 82) rfl (.slice A9 i c9) (lvs (rl.take i)) z rfl rfl hz32 (by rw [Hll.out]; omega) w2.heap.size hx6s i Hll.out hL6 hX6 (Nat.le_refl _) fun A7 c7 w7 hL7 hG7 hX7 => ?_
        simp only [Act.put, List.setIfInBounds_toArray, List.set_cons_zero, List.set_cons_succ]
        have hR7 := World.ownsRow.kept (hR6.alloc (.cells (flatS [z]).toArray 28)) hG7 (own_ne hR6 hL6 (by decide))
        rw [← HM.out] at hL7
        clear hR6 hL6 hX6 hG7
        go_wp2_with fail
        go_roundw
        case rel => exact ⟨i + 1, by omega, by go_num, hR7, hL7, hX7⟩
        case measure => simp [intOf]; omega
      · skip
        (refine plan_loud (by simp only [List.getElem?_toArray, List.getElem?_cons_zero, List.getElem?_cons_succ]; rfl) (by rfl) (by rfl) (fun K E hK => ?_); go_big_op)
        have hN : RecAt ((grow wo y0).alloc (.cells #[.int .i64 0, .int .i64 0, .int .i64 0, .string ⟨#[]⟩] 36)) (grow wo y0).heap.size ⟨0, 0, 0, []⟩ := Blk.new _ _ _
        have hgN : wo.heap.size ≤ (grow wo y0).heap.size := (grow_ext y0).size
        obtain ⟨y1, hy1⟩ := more_of ((grow_ext y0).alloc (.cells #[.int .i64 0, .int .i64 0, .int .i64 0, .string ⟨#[]⟩] 36))
        change K _ ((grow wo y0).alloc (.cells #[.int .i64 0, .int .i64 0, .int .i64 0, .string ⟨#[]⟩] 36))
        rw [hy1] at hN ⊢
        clear hy1
        generalize (grow wo y0).heap.size = gN at *
        refine hK _ _ ⟨_, rfl⟩ ?_; clear hK K E
        refine plan_one ?_
        (refine plan_loud (by simp only [List.getElem?_toArray, List.getElem?_cons_zero, List.getElem?_cons_succ]; rfl) (by rfl) (by rfl) (fun K E hK => ?_); go_big_op)
        refine (short19_calls f.pay 60 _ hpl (by omega)).mono ?_; rw [← Hpy.out]; rintro e w' ⟨rfl, rfl⟩
        refine hK _ _ ⟨_, rfl⟩ ?_; clear hK K E
        refine plan_build (by simp only [List.getElem?_toArray, List.getElem?_cons_zero, List.getElem?_cons_succ]; rfl) (by rfl) (by rfl) 36 _ rfl _ (by rw [Array.toList_map]; rfl) _ (built_rc 20 (i : Int) tm py) ?_
        simp only [Act.put, List.setIfInBounds_toArray, List.set_cons_zero, List.set_cons_succ]
        refine plan_nil ?_
        have hsz := size_rc ⟨20, (i : Int), tm, py⟩
        have eY := grow_ext y1
        generalize grow wo y1 = w3 at *
        refine wpList_store_row rfl 36 (.tmp 11) (.tmp 74) rfl gN #[.int .i64 20, .int .i64 (i : Int), .int .i64 tm, .string (bs py)] (by rfl) (by rfl) 36 _ hN hsz (by rfl) (by simp [Value.oneCell']) ?_
        simp only [Act.put, List.setIfInBounds_toArray, List.set_cons_zero, List.set_cons_succ]
        have hN2 : RecAt (w3.setRow gN #[.int .i64 20, .int .i64 (i : Int), .int .i64 tm, .string (bs py)]) gN ⟨20, (i : Int), tm, py⟩ := Blk.row hN _
        have e2 : Ext wo (w3.setRow gN #[.int .i64 20, .int .i64 (i : Int), .int .i64 tm, .string (bs py)]) := eY.row hgN _
        have hR2 := owns_ext hR e2
        have hL2 := owns_ext hL e2
        have hX2 := hX.trans e2
        have hk8 := fun k hk => (hR.lt k hk).2
        have hx2s := hX2.size
        clear hR hL hX e2 eY hN c2 c3 han
        generalize w3.setRow gN #[.int .i64 20, .int .i64 (i : Int), .int .i64 tm, .string (bs py)] = w4 at *
        go_wp2_with (refine stop_load 36 (.tmp 11) rfl ?_)
        refine ⟨?_⟩
        refine wpList_load_row rfl 36 (.tmp 11) rfl gN (by rfl) 36 _ (0, 0) _ hN2 Tryz.underlying36 rfl hsz ?_
        simp only [Act.put, List.setIfInBounds_toArray, List.set_cons_zero, List.set_cons_succ]
        refine wpList_buildRc rfl _ rfl ⟨20, (i : Int), tm, py⟩ rfl ?_
        simp only [Act.put, List.setIfInBounds_toArray, List.set_cons_zero, List.set_cons_succ]
        refine append_rc rfl (.tmp 75) (.tmp 77) rfl (.slice A8 i c8) (rcs (rl.take i)) ⟨20, (i : Int), tm, py⟩ rfl rfl (by rw [Hcl.out]; omega) w2.heap.size hx2s i Hcl.out hR2 hX2 (Nat.le_refl _) fun A5 c5 w5 hR5 hG5 hX5 => ?_
        simp only [Act.put, List.setIfInBounds_toArray, List.set_cons_zero, List.set_cons_succ]
        have hL5 := World.ownsRow.kept (hL2.alloc (.cells (flatR [(⟨20, (i : Int), tm, py⟩ : Rc)]).toArray 36)) hG5 (own_ne hL2 hR2 (by decide))
        have hN5 : RecAt w5 gN ⟨20, (i : Int), tm, py⟩ := Blk.grown (Blk.alloc hN2 _) hG5 (fun e => by have := hk8 gN e.symm; omega)
        rw [← HN.out] at hR5
        clear hR2 hL2 hG5 hN2 hX2 hk8
        go_wp2_with (refine stop_load 36 (.tmp 11) rfl ?_)
        refine ⟨?_⟩
        refine wpList_load_row rfl 36 (.tmp 11) rfl gN (by rfl) 36 _ (0, 0) _ hN5 Tryz.underlying36 rfl hsz ?_
        simp only [Act.put, List.setIfInBounds_toArray, List.set_cons_zero, List.set_cons_succ]
        go_wp2_with fail
        change Calls _ _ #[Rc.v ⟨20, (i : Int), tm, py⟩] _ _
        refine (refRecLeaf_calls ⟨20, (i : Int), tm, py⟩ _ (by simp only; omega)).mono ?_; rintro e w6 ⟨rfl, e6⟩
        have hR6 := owns_ext hR5 e6
        have hL6 := owns_ext hL5 e6
        have hX6 := hX5.trans e6
        have hx6s := hX6.size
        have hz32 : (leafB (Rc.outB ⟨20, (i : Int), tm, py⟩)).length = 32 := leafB_length _
        generalize leafB (Rc.outB ⟨20, (i : Int), tm, py⟩) = z at *
        clear hR5 hL5 hX5 hN5 e6
        go_wp2_with (refine stop_at 82 rfl ?_)
        refine ⟨?_⟩
        refine wpList_buildSums rfl 1 _ rfl [z] (AllH.cons hz32 AllH.nil) rfl (by decide) (by decide) (by rfl) ?_
        simp only [Act.put, List.setIfInBounds_toArray, List.set_cons_zero, List.set_cons_succ]
        refine append_own rfl (.tmp 79) (.tmp 82) rfl (.slice A9 i c9) (lvs (rl.take i)) z rfl rfl hz32 (by rw [Hll.out]; omega) w2.heap.size hx6s i Hll.out hL6 hX6 (Nat.le_refl _) fun A7 c7 w7 hL7 hG7 hX7 => ?_
        simp only [Act.put, List.setIfInBounds_toArray, List.set_cons_zero, List.set_cons_succ]
        have hR7 := World.ownsRow.kept (hR6.alloc (.cells (flatS [z]).toArray 28)) hG7 (own_ne hR6 hL6 (by decide))
        rw [← HM.out] at hL7
        clear hR6 hL6 hX6 hG7
        go_wp2_with fail
        go_roundw
        case rel => exact ⟨i + 1, by omega, by go_num, hR7, hL7, hX7⟩
        case measure => simp [intOf]; omega
    · obtain rfl : i = rl.length := by omega
      rw [List.take_length] at hR hL
      replace hB := hB.ext hX
      replace hS := hS.ext hX
      have hzo := Nat.le_trans hz hX.size
      have hLO : OwnS wo w2.heap.size (.slice A9 rl.length c9) (lvs rl) := OwnS.of_own (by rw [lvs_length]; exact hL)
      obtain ⟨z, hzr⟩ : ∃ z, z = rootS (lvs rl) := ⟨_, rfl⟩
      have hz32 : z.length = 32 := by rw [hzr]; exact rootS_length _ (lvs_all rl)
      have Hzr := Lib.hid hzr
      clear hX hzr hE2 hi hlt
      go_wp2_with fail
      refine (refRoot_calls _ (lvs rl) (lvs_all rl) _ hLO.sl).mono ?_; rw [← Hzr.out]; rintro e w4 ⟨rfl, e4⟩
      replace hB := hB.ext e4
      replace hS := hS.ext e4
      replace hR := owns_ext hR e4
      replace hL := owns_ext hL e4
      have hz4 := Nat.le_trans hzo e4.size
      have hfl := Seal.Fz.cells_length (⟨20, (rl.length : Int), z⟩ : Fz) hz32
      clear e4 hLO hzo
      go_wp2_with (refine stop_at 88 rfl ?_)
      refine ⟨?_⟩
      refine wpList_build_to rfl 30 _ rfl _ (by rw [Array.toList_map]; rfl) _ (built_fz3 20 (rl.length : Int) z hz32) ?_
      simp only [Act.put, List.setIfInBounds_toArray, List.set_cons_zero, List.set_cons_succ]
      go_wp2_with (refine stop_store 30 (.tmp 12) (.tmp 88) rfl ?_)
      refine ⟨?_⟩
      change wpList _ _ _ _ _ (w4.alloc (.cells Seal.zF.cells.toArray 30))
      have hF0 : Blk (w4.alloc (.cells Seal.zF.cells.toArray 30)) w4.heap.size 30 Seal.zF.cells.toArray := Blk.new _ _ _
      refine wpList_store_row rfl 30 (.tmp 12) (.tmp 88) rfl w4.heap.size (Fz.cells (⟨20, (rl.length : Int), z⟩ : Fz)).toArray (by rfl) (by rfl) 30 _ hF0 (Seal.size_fz (⟨20, (rl.length : Int), z⟩ : Fz) hz32) (by simp only [List.size_toArray]; rw [hfl]; rfl) (all_oneCell_toArray (Seal.Fz.one (⟨20, (rl.length : Int), z⟩ : Fz))) ?_
      simp only [Act.put, List.setIfInBounds_toArray, List.set_cons_zero, List.set_cons_succ]
      have hF : FzAt ((w4.alloc (.cells Seal.zF.cells.toArray 30)).setRow w4.heap.size (Fz.cells (⟨20, (rl.length : Int), z⟩ : Fz)).toArray) w4.heap.size (⟨20, (rl.length : Int), z⟩ : Fz) := Blk.row hF0 _
      have e5 : Ext w4 ((w4.alloc (.cells Seal.zF.cells.toArray 30)).setRow w4.heap.size (Fz.cells (⟨20, (rl.length : Int), z⟩ : Fz)).toArray) := ((Ext.refl w4).alloc _).row (Nat.le_refl _) _
      have hvk : v.ownBlock ≠ some w4.heap.size := fun e => by have := (hS.2.lt _ e).2; omega
      replace hB := hB.ext e5
      replace hS := hS.ext e5
      replace hR := owns_ext hR e5
      replace hL := owns_ext hL e5
      have hz5 := Nat.le_trans hz4 e5.size
      clear hF0 e5 hfl
      generalize (w4.alloc (.cells Seal.zF.cells.toArray 30)).setRow w4.heap.size (Fz.cells (⟨20, (rl.length : Int), z⟩ : Fz)).toArray = w5 at *
      obtain ⟨gF, hgF⟩ : ∃ g, g = w4.heap.size := ⟨_, rfl⟩
      rw [← hgF] at hF hvk hz4 ⊢
      clear hgF
      go_wp2_with (refine stop_load 30 (.tmp 12) rfl ?_)
      refine ⟨?_⟩
      refine wpList_load_row rfl 30 (.tmp 12) rfl gF (by rfl) 30 _ (0, 0) _ hF Tryz.underlying30 rfl (Seal.size_fz (⟨20, (rl.length : Int), z⟩ : Fz) hz32) ?_
      simp only [Act.put, List.setIfInBounds_toArray, List.set_cons_zero, List.set_cons_succ]
      have ha8l : a8.length ≤ 8 := by have := Ha8n.out; omega
      have hlast : ∀ (h : 0 < (rowF 0 1 a8).length), (rowF 0 1 a8)[(rowF 0 1 a8).length - 1].win < (20 : Int) := fun h => by
        have h2 := (rowF_mem (List.getElem_mem (show (rowF 0 1 a8).length - 1 < (rowF 0 1 a8).length by omega))).2.1
        omega
      have hmay : Seal.Fz.may (⟨20, (rl.length : Int), z⟩ : Fz) := by unfold Seal.Fz.may; simp only; omega
      have HL := Lib.hid hlast; clear hlast
      go_wp2_with fail
      change Calls _ _ #[_, Seal.Fz.v (⟨20, (rl.length : Int), z⟩ : Fz)] _ _
      refine (Anchor_fresh _ _ gF (rowF 0 1 a8) v (⟨20, (rl.length : Int), z⟩ : Fz) (⟨20, (rl.length : Int), z⟩ : Fz) hz32 hmay (rowF_all hA8) (by rw [rowF_length]; omega) HL.out _ hS hz5 hF hz32 (by omega) hvk (fun h => hv0 (by have := congrArg List.length h; rw [rowF_length] at this; exact List.eq_nil_of_length_eq_zero this)) (by omega)).mono ?_
      rw [rowF_length]; rintro e w6 ⟨rfl, ⟨v6, hS6, hv6⟩, hK6, hF6⟩
      have hB6 := hB.keep hS (by omega) (by omega) hK6
      have hR6 := keep_row hR hS hK6 (by decide) (by decide)
      have hL6 := keep_row hL hS hK6 (by decide) (by decide)
      have hz6 := Nat.le_trans hz5 hK6.size
      clear hB hS hR hL hF hvk hK6 hz5 hv0 HL
      obtain ⟨k0, k1, k2, k3, k4⟩ := hB6.cells
      go_upto_block 4 with fail
      obtain ⟨b8, hb8⟩ : ∃ l, l = wd.behind.take 8 := ⟨_, rfl⟩
      have hb8n : b8.length = min 8 wd.behind.length := by rw [hb8, List.length_take]
      have hb8g : ∀ (i : Nat) (h : i < b8.length) (h2 : i < wd.behind.length), b8[i] = wd.behind[i] := fun i h h2 => by
        subst hb8
        exact List.getElem_take
      have hB8 : AllH b8 := by rw [hb8]; exact hbh.take _
      have Hb8 := Lib.hid hb8; have Hb8n := Lib.hid hb8n; have Hb8g := Lib.hid hb8g
      clear hb8 hb8n hb8g k0 k1 k2 k3 k4
      go_cut [] (fun wx => BaseW w wx (.slice (some ⟨br, offr, none⟩) wd.recs.length ca) (.slice Aq wd.ahead.length cq) (.slice As wd.behind.length cs) wd.which wd.key ∧ wx.ownsRow w2.heap.size 36 4 (.slice A8 rl.length c8) rl.length (flatR (rcs rl)) ∧ wx.ownsRow w2.heap.size 28 32 (.slice A9 rl.length c9) rl.length (flatS (lvs rl)) ∧ FzAt wx gF (⟨20, (rl.length : Int), z⟩ : Fz) ∧ (∃ v, SupAt wx (w.heap.size + 3) (w.heap.size + 4) ((rowF 0 1 a8 ++ [(⟨20, (rl.length : Int), z⟩ : Fz)]) ++ rowF 30 2 b8) v) ∧ w.heap.size + 4 ≤ wx.heap.size)
      case first =>
        go_wp2_with fail
        go_loopw [15] (fun s15 wr => ∃ i : Nat, i ≤ b8.length ∧ s15 = .int .i64 (i : Int) ∧ BaseW w wr (.slice (some ⟨br, offr, none⟩) wd.recs.length ca) (.slice Aq wd.ahead.length cq) (.slice As wd.behind.length cs) wd.which wd.key ∧ wr.ownsRow w2.heap.size 36 4 (.slice A8 rl.length c8) rl.length (flatR (rcs rl)) ∧ wr.ownsRow w2.heap.size 28 32 (.slice A9 rl.length c9) rl.length (flatS (lvs rl)) ∧ FzAt wr gF (⟨20, (rl.length : Int), z⟩ : Fz) ∧ (∃ v, SupAt wr (w.heap.size + 3) (w.heap.size + 4) ((rowF 0 1 a8 ++ [(⟨20, (rl.length : Int), z⟩ : Fz)]) ++ rowF 30 2 (b8.take i)) v ∧ v.ownBlock ≠ some gF) ∧ w.heap.size + 4 ≤ wr.heap.size) (fun s15 _ => 8 - (intOf s15).toNat)
        case atStart => exact ⟨0, Nat.zero_le _, rfl, hB6, hR6, hL6, hF6, ⟨_, by rw [List.take_zero, show rowF 30 2 [] = [] from rfl, List.append_nil]; exact hS6, hv6⟩, hz6⟩
        case round =>
          clear hB6 hS6 hz6 hR6 hL6 hF6 hv6
          obtain ⟨wo, rfl⟩ : ∃ wo : World, wo = wr := ⟨_, rfl⟩
          obtain ⟨i, hi, rfl, hB, hR, hL, hF, ⟨v, hS, hvF⟩, hz⟩ := hrel
          obtain ⟨-, -, k2, -, -⟩ := hB.cells
          by_cases hlt : i < b8.length
          · have hia : i < wd.behind.length := by have := Hb8n.out; omega
            have hi8 : i < 8 := by have := Hb8n.out; omega
            have j1 : (i : Int) < (wd.behind.length : Int) := by omega
            have j2 : (i : Int) < 8 := by omega
            have hAo : ∃ b off, As = some ⟨b, off, none⟩ := by
              rcases hAs with ⟨_, hl0, _⟩ | h
              · rw [hl0] at hia; simp at hia
              · exact h
            obtain ⟨bq, offq, rfl⟩ := hAo
            obtain ⟨hbl, hm⟩ := rds_at (hrs.below hB.2.2.2 (Nat.le_refl _)) hbh hia
            have hx := hbh.get i hia
            have HR := Lib.hid (show (rowF 0 1 a8 ++ [(⟨20, (rl.length : Int), z⟩ : Fz)]) ++ rowF 30 2 (b8.take (i + 1)) = ((rowF 0 1 a8 ++ [(⟨20, (rl.length : Int), z⟩ : Fz)]) ++ rowF 30 2 (b8.take i)) ++ [⟨30 + (i : Int), 2, wd.behind[i]⟩] by rw [rowF_take 30 2 b8 i hlt, Hb8g.out i hlt hia]; exact (List.append_assoc _ _ _).symm)
            obtain ⟨li, hli⟩ : ∃ li, li = ((rowF 0 1 a8 ++ [(⟨20, (rl.length : Int), z⟩ : Fz)]) ++ rowF 30 2 (b8.take i)) := ⟨_, rfl⟩
            rw [← hli] at hS HR
            have hall : AllF li := fun g hg => by
              rw [hli] at hg
              rcases List.mem_append.1 hg with hg | hg
              · rcases List.mem_append.1 hg with hg | hg
                · exact rowF_all hA8 g hg
                · rw [List.mem_singleton.1 hg]; exact hz32
              · exact rowF_all (hB8.take i) g hg
            have hwin : ∀ g ∈ li, g.win < 30 + (i : Int) := fun g hg => by
              rw [hli] at hg
              rcases List.mem_append.1 hg with hg | hg
              · rcases List.mem_append.1 hg with hg | hg
                · have := (rowF_mem hg).2.1; omega
                · rw [List.mem_singleton.1 hg]; simp only; omega
              · have := (rowF_mem hg).2.1
                rw [List.length_take] at this
                omega
            have hln : li.length ≤ 1000 := by rw [hli, List.length_append, List.length_append, rowF_length, rowF_length, List.length_take, List.length_singleton]; omega
            have hlast : ∀ (h : 0 < li.length), li[li.length - 1].win < 30 + (i : Int) := fun h => hwin _ (List.getElem_mem _)
            generalize wd.behind[i] = y at *
            have hmayy : Seal.Fz.may ⟨30 + (i : Int), 2, y⟩ := by unfold Seal.Fz.may; simp only; omega
            have hne2 : li ≠ [] := by rw [hli]; simp
            have HL := Lib.hid hlast; have HN2 := Lib.hid hne2
            clear hlast hwin hne2
            clear hli
            go_wp2_with (refine stop_load 28 (.tmp 112) rfl ?_)
            refine ⟨?_⟩
            refine wpList_load_mid rfl 28 (.tmp 112) rfl bq ((offq + i * 32)) (by rfl) (hcells y) _ hm Tryz.underlying28 rfl (size32l _ hx) ?_
            simp only [Act.put, List.setIfInBounds_toArray, List.set_cons_zero, List.set_cons_succ]
            unfold hcells
            go_wp2_with (refine stop_at 114 rfl ?_)
            refine ⟨?_⟩
            refine wpList_build_to rfl 30 _ rfl _ (by rw [Array.toList_map]; rfl) _ (built_fz3 (30 + (i : Int)) 2 y hx) ?_
            simp only [Act.put, List.setIfInBounds_toArray, List.set_cons_zero, List.set_cons_succ]
            go_wp2_with fail
            change Calls _ _ #[_, Seal.Fz.v ⟨30 + (i : Int), 2, y⟩] _ _
            refine (Anchor_fresh _ _ gF li v ⟨30 + (i : Int), 2, y⟩ (⟨20, (rl.length : Int), z⟩ : Fz) hx hmayy hall hln HL.out _ hS hz hF hz32 (by omega) hvF (fun h => absurd h HN2.out) (by omega)).mono ?_; rintro e w3 ⟨rfl, ⟨v3, hS3, hv3⟩, hK3, hF3⟩
            rw [← HR.out] at hS3
            have hB3 := hB.keep hS (by omega) (by omega) hK3
            have hR3 := keep_row hR hS hK3 (by decide) (by decide)
            have hL3 := keep_row hL hS hK3 (by decide) (by decide)
            have hz3 := hK3.size
            clear hS hB hR hL hF k2 hm hbl hK3
            go_wp2_with fail
            go_roundw
            case rel => exact ⟨i + 1, by omega, by go_num, hB3, hR3, hL3, hF3, ⟨v3, hS3, hv3⟩, by omega⟩
            case measure => simp [intOf]; omega
          · obtain rfl : i = b8.length := by omega
            rw [List.take_length] at hS
            by_cases hia : b8.length < wd.behind.length
            · have j1 : (b8.length : Int) < (wd.behind.length : Int) := by omega
              have j2 : ¬ (b8.length : Int) < 8 := by have := Hb8n.out; omega
              go_wp2_with fail
              go_meet
              exact ⟨hB, hR, hL, hF, ⟨v, hS⟩, hz⟩
            · have j1 : ¬ (b8.length : Int) < (wd.behind.length : Int) := by omega
              go_wp2_with fail
              go_meet
              exact ⟨hB, hR, hL, hF, ⟨v, hS⟩, hz⟩
      case rest =>
      clear hB6 hS6 hz6 hR6 hL6 hF6 hv6 hmay hz
      obtain ⟨w7, rfl⟩ : ∃ w7 : World, w7 = wc := ⟨_, rfl⟩
      obtain ⟨hB, hR, hL, hF, ⟨v, hS⟩, hz⟩ := hcut
      have hab : (wd.which.tmod (rl.length : Int)).natAbs < rl.length := by
        rw [Int.natAbs_tmod]
        exact Nat.mod_lt _ (by simpa using hrp)
      have hk : wd.k = (wd.which.tmod (rl.length : Int)).natAbs := by unfold Wd.k; rw [← Hrl.out]
      obtain ⟨m, hm⟩ : ∃ m, wd.which.tmod (rl.length : Int) = m := ⟨_, rfl⟩
      rw [hm] at hab hk
      have Hk := Lib.hid hk
      have j1 : ((rl.length : Int) == 0) = false := by rw [beq_eq_false_iff_ne]; omega
      have j2 : ¬ (rl.length : Int) = 0 := by omega
      obtain ⟨-, -, -, k3, k4⟩ := hB.cells
      clear hk
      go_upto_if 122 with fail
      go_cut [16] (fun s16 wx => s16 = .int .i64 ((m.natAbs : Nat) : Int) ∧ w7 = wx)
      case first =>
        by_cases hneg : m < 0
        · go_wp2_with fail
          go_meet
          exact ⟨by congr 1; omega, rfl⟩
        · go_wp2_with fail
          go_meet
          exact ⟨by congr 1; omega, rfl⟩
      case rest =>
      obtain ⟨rfl, rfl⟩ := hcut
      obtain ⟨k, hkk⟩ : ∃ k, k = m.natAbs := ⟨_, rfl⟩
      rw [← hkk] at hab Hk ⊢
      clear hkk hm j1 j2
      have hLs : SlS w7 w7.heap.size (.slice A9 rl.length c9) (lvs rl) := (OwnS.of_own (by rw [lvs_length]; exact hL)).sl
      obtain ⟨fl, hfl⟩ : ∃ fl, fl = (rowF 0 1 a8 ++ [(⟨20, (rl.length : Int), z⟩ : Fz)]) ++ rowF 30 2 b8 := ⟨_, rfl⟩
      rw [← hfl] at hS
      have hflA : AllF fl := fun g hg => by
        rw [hfl] at hg
        rcases List.mem_append.1 hg with hg | hg
        · rcases List.mem_append.1 hg with hg | hg
          · exact rowF_all hA8 g hg
          · rw [List.mem_singleton.1 hg]; exact hz32
        · exact rowF_all hB8 g hg
      have hb8l : b8.length ≤ 8 := by have := Hb8n.out; omega
      have hflen : fl.length = a8.length + 1 + b8.length := by rw [hfl, List.length_append, List.length_append, rowF_length, rowF_length, List.length_singleton]
      have hfln : fl.length ≤ 1000 := by omega
      have hfpl : a8.length < fl.length := by omega
      have hcite : wd.cite = ⟨(⟨20, (rl.length : Int), z⟩ : Fz), pathS (lvs rl) k, (a8.length : Int), pathS (leavesF fl) a8.length, Seal.Hd.sign (wd.key.take 40) (fl.length : Int) (rootS (leavesF fl)) 99⟩ := by
        rw [hfl, ← Hk.out, Hzr.out, Ha8.out, Hb8.out, Hrl.out]
        rfl
      have hrec : wd.rec_ = (rcs rl).getD k ⟨0, 0, 0, []⟩ := by
        unfold Wd.rec_ Wd.rows
        rw [Hk.out, Hrl.out]
      have Hcite := Lib.hid hcite; have Hrec := Lib.hid hrec
      obtain ⟨Av, cv, rfl⟩ := own_slice hS.2
      obtain ⟨g8, rfl⟩ : ∃ g, A8 = some ⟨g, 0, none⟩ := by
        rcases hR.2 with ⟨h, h0⟩ | ⟨g, cap, cur, h, _⟩
        · omega
        · injection h with h1 h2 h3
          exact ⟨g, h1⟩
      clear hfl hflen hcite hrec hL
      go_wp2_with fail
      refine (refPath_own _ (lvs rl) k (by rw [lvs_length]; omega) (by rw [lvs_length]; exact hab) (lvs_all rl) _ hLs).mono ?_; rintro e w8 ⟨P, rfl, hP, e8⟩
      obtain ⟨pp, hpp⟩ : ∃ p, p = pathS (lvs rl) k := ⟨_, rfl⟩
      rw [← hpp] at hP Hcite
      obtain ⟨AP, cP, rfl⟩ : ∃ A c, P = .slice A pp.length c := by
        obtain ⟨A, c, e, _⟩ := hP
        exact ⟨A, c, e⟩
      have hPb := own_blk_lt hP
      replace hP := hP.less (show w.heap.size + 3 ≤ w7.heap.size by omega)
      have hz8 := Nat.le_trans hz e8.size
      replace hB := hB.ext e8
      replace hS := hS.ext e8
      replace hR := owns_ext hR e8
      replace hF := FzAt.ext hF e8
      clear hLs hpp e8 k3 k4
      have cS := hS.c
      go_wp2_with fail
      refine (supPath_own _ _ fl _ hflA hfln a8.length hfpl _ hS).mono ?_; rintro e w9 ⟨⟨Q, rfl, hQ⟩, e9⟩
      obtain ⟨qq, hqq⟩ : ∃ p, p = pathS (leavesF fl) a8.length := ⟨_, rfl⟩
      rw [← hqq] at hQ Hcite
      obtain ⟨AQ, cQ, rfl⟩ : ∃ A c, Q = .slice A qq.length c := by
        obtain ⟨A, c, e, _⟩ := hQ
        exact ⟨A, c, e⟩
      have hap := own_blks_ne hPb hQ
      replace hQ := hQ.less (show w.heap.size + 3 ≤ w8.heap.size by omega)
      replace hP := hP.ext e9
      replace hB := hB.ext e9
      replace hS := hS.ext e9
      replace hR := owns_ext hR e9
      replace hF := FzAt.ext hF e9
      clear hqq e9 cS
      obtain ⟨-, -, -, -, k4⟩ := hB.cells
      have hg1 := Blk.lt hB.1
      have hgF := Blk.lt hF
      have hkR : k < (rcs rl).length := by rw [rcs_length]; exact hab
      obtain ⟨hrb, hrm⟩ := rdr_at (Rd.of_own hR) hkR
      have hkI : (k : Int) < (rl.length : Int) := by omega
      obtain ⟨rk, hrk⟩ : ∃ r, r = (rcs rl)[k] := ⟨_, rfl⟩
      rw [← hrk, Nat.zero_add] at hrm
      have Hrk := Lib.hid (show wd.rec_ = rk by rw [Hrec.out, hrk, List.getD_eq_getElem?_getD, List.getElem?_eq_getElem hkR, Option.getD_some])
      have hsk := size_rc rk
      clear hrk hkR
      obtain ⟨hd, hhd⟩ : ∃ h, h = Seal.Hd.sign (wd.key.take 40) (fl.length : Int) (rootS (leavesF fl)) 99 := ⟨_, rfl⟩
      have h1 : hd.root.length = 32 := by rw [hhd]; exact rootS_length _ (leavesF_all fl)
      have h2 : hd.mac.length = 32 := by rw [hhd]; exact Seal.signB_length _ _ _
      have hky : (wd.key.take 40).length ≤ 40 := by rw [List.length_take]; omega
      have HH := fun u hu => supHead_calls (w.heap.size + 3) (w.heap.size + 4) fl (.slice Av fl.length cv) hflA hfln (wd.key.take 40) (by omega) 99 u hu
      rw [← hhd] at HH Hcite
      have HHd := Lib.hid HH
      clear HH hhd
      go_upto_region 30 with fail
      have hg8 : w2.heap.size ≤ g8 := (hR.lt g8 rfl).1
      have hkc : ∀ y : Held (fun k => k ≠ w.heap.size + 1 ∧ k ≠ w.heap.size + 2) w9, (heldW (fun k => k ≠ w.heap.size + 1 ∧ k ≠ w.heap.size + 2) w9 y).cell? ⟨w.heap.size, 4, none⟩ = some (.string (bs wd.key)) := fun y => (World.cell?_of_block ((heldW_keep y).block w.heap.size hg1 ⟨by omega, by omega⟩)).trans k4
      refine region_keep0 (fun k => k ≠ w.heap.size + 1 ∧ k ≠ w.heap.size + 2) (by kernel_rfl) (by kernel_rfl) ?_
      refine held_row (by rfl) (by rfl) 30 (.tmp 12) rfl gF (by rfl) _ _ _ hF ⟨by omega, by omega⟩ Tryz.underlying30 rfl (Seal.size_fz (⟨20, (rl.length : Int), z⟩ : Fz) hz32) ?_
      simp only [Act.put, List.setIfInBounds_toArray, List.set_cons_zero, List.set_cons_succ]
      iterate 6 (first | (refine mix_quiet (by rfl) (by rfl) (fun K hK => ?_); go_big_quiet_op; refine hK _ ?_; clear hK K) | (refine mix_skip (by rfl) ?_; simp only [Act.put, List.setIfInBounds_toArray, List.set_cons_zero, List.set_cons_succ]))
      (refine mix_loud (by rfl) (by rfl) (fun K E hK => ?_); go_big_op)
      refine (short19_calls wd.key 40 _ hkey (by omega)).mono ?_; rintro e w' ⟨rfl, rfl⟩
      refine hK _ _ (held_of (Keep.refl _ w9).drew) ?_; clear hK K E
      (refine mix_loud (by rfl) (by rfl) (fun K E hK => ?_); go_big_op)
      refine (HHd.out _ (hS.ext ((Ext.refl w9).drew))).mono ?_; rintro e w10 ⟨rfl, e10⟩
      have hk10 : Keep (fun k => k ≠ w.heap.size + 1 ∧ k ≠ w.heap.size + 2) w9 w10 := (Keep.refl _ w9).drew.trans (Keep.of_ext e10)
      have e9d : Ext w9 w10 := (Ext.refl w9).drew.trans e10
      refine hK _ _ (held_of hk10) ?_; clear hK K E
      refine mix_build (by rfl) (by rfl) 34 _ rfl _ (by rw [Array.toList_map]; rfl) _ (built_ct5 (⟨20, (rl.length : Int), z⟩ : Fz) hz32 AP AQ pp.length qq.length cP cQ (a8.length : Int) hd h1 h2) ?_
      simp only [Act.put, List.setIfInBounds_toArray, List.set_cons_zero, List.set_cons_succ]
      iterate 3 (first | (refine mix_quiet (by rfl) (by rfl) (fun K hK => ?_); go_big_quiet_op; refine hK _ ?_; clear hK K) | (refine mix_skip (by rfl) ?_; simp only [Act.put, List.setIfInBounds_toArray, List.set_cons_zero, List.set_cons_succ]))
      refine held_mid (by rfl) (by rfl) 36 (.tmp 154) rfl g8 (k * 4) (by rfl) (rk.cells) _ hrm hrb ⟨by omega, by omega⟩ Tryz.underlying36 rfl hsk ?_
      simp only [Act.put, List.setIfInBounds_toArray, List.set_cons_zero, List.set_cons_succ]
      have hB10 := hB.ext e9d
      have hP10 := hP.ext e9d
      have hQ10 := hQ.ext e9d
      refine mix_store_row (by rfl) (by rfl) 34 (.tmp 2) (.tmp 151) rfl (w.heap.size + 1) (citeC (⟨20, (rl.length : Int), z⟩ : Fz) (.slice AP pp.length cP) (a8.length : Int) (.slice AQ qq.length cQ) hd).toArray (by rfl) (by rfl) 34 _ hB10.2.1 (size_ct hz32 h1 h2) (by simp only [List.size_toArray]; rw [citeC_length hz32 h1 h2]; rfl) (all_oneCell_toArray (citeC_one (by rfl) (by rfl))) (held_of (hk10.row (by simp) (citeC (⟨20, (rl.length : Int), z⟩ : Fz) (.slice AP pp.length cP) (a8.length : Int) (.slice AQ qq.length cQ) hd).toArray)) ?_
      simp only [Act.put, List.setIfInBounds_toArray, List.set_cons_zero, List.set_cons_succ]
      have hRr : RecAt (w10.setRow (w.heap.size + 1) (citeC (⟨20, (rl.length : Int), z⟩ : Fz) (.slice AP pp.length cP) (a8.length : Int) (.slice AQ qq.length cQ) hd).toArray) (w.heap.size + 2) ⟨0, 0, 0, []⟩ := Blk.rowFar hB10.2.2.1 (show w.heap.size + 2 ≠ w.heap.size + 1 by omega) (citeC (⟨20, (rl.length : Int), z⟩ : Fz) (.slice AP pp.length cP) (a8.length : Int) (.slice AQ qq.length cQ) hd).toArray
      refine mix_store_row (by rfl) (by rfl) 36 (.tmp 3) (.tmp 155) rfl (w.heap.size + 2) #[.int .i64 rk.win, .int .i64 rk.idx, .int .i64 rk.time, .string (bs rk.pay)] (by rfl) (by rfl) 36 _ hRr hsk (by rfl) (by simp [Value.oneCell']) (held_of ((hk10.row (by simp) (citeC (⟨20, (rl.length : Int), z⟩ : Fz) (.slice AP pp.length cP) (a8.length : Int) (.slice AQ qq.length cQ) hd).toArray).row (by simp) #[.int .i64 rk.win, .int .i64 rk.idx, .int .i64 rk.time, .string (bs rk.pay)])) ?_
      simp only [Act.put, List.setIfInBounds_toArray, List.set_cons_zero, List.set_cons_succ]
      have hC2 := Blk.rowFar (Blk.row hB10.2.1 (citeC (⟨20, (rl.length : Int), z⟩ : Fz) (.slice AP pp.length cP) (a8.length : Int) (.slice AQ qq.length cQ) hd).toArray) (show w.heap.size + 1 ≠ w.heap.size + 2 by omega) #[.int .i64 rk.win, .int .i64 rk.idx, .int .i64 rk.time, .string (bs rk.pay)]
      have hR2 := Blk.row hRr #[.int .i64 rk.win, .int .i64 rk.idx, .int .i64 rk.time, .string (bs rk.pay)]
      have e12 := (hB10.2.2.2.row (show w.heap.size ≤ w.heap.size + 1 by omega) (citeC (⟨20, (rl.length : Int), z⟩ : Fz) (.slice AP pp.length cP) (a8.length : Int) (.slice AQ qq.length cQ) hd).toArray).row (show w.heap.size ≤ w.heap.size + 2 by omega) #[.int .i64 rk.win, .int .i64 rk.idx, .int .i64 rk.time, .string (bs rk.pay)]
      have hP12 := (hP10.updO (updRow w10 (w.heap.size + 1) (citeC (⟨20, (rl.length : Int), z⟩ : Fz) (.slice AP pp.length cP) (a8.length : Int) (.slice AQ qq.length cQ) hd).toArray) (by omega)).updO (updRow _ (w.heap.size + 2) #[.int .i64 rk.win, .int .i64 rk.idx, .int .i64 rk.time, .string (bs rk.pay)]) (by omega)
      have hQ12 := (hQ10.updO (updRow w10 (w.heap.size + 1) (citeC (⟨20, (rl.length : Int), z⟩ : Fz) (.slice AP pp.length cP) (a8.length : Int) (.slice AQ qq.length cQ) hd).toArray) (by omega)).updO (updRow _ (w.heap.size + 2) #[.int .i64 rk.win, .int .i64 rk.idx, .int .i64 rk.time, .string (bs rk.pay)]) (by omega)
      clear hkc hk10 e9d e10 hB10 hP10 hQ10 hRr hS hR hF hB hP hQ
      repeat (first | (refine mix_quiet (by rfl) (by rfl) (fun K hK => ?_); go_big_quiet_op; refine hK _ ?_; clear hK K) | (refine mix_skip (by rfl) ?_; simp only [Act.put, List.setIfInBounds_toArray, List.set_cons_zero, List.set_cons_succ]))
      refine mix_nil ?_
      go_wp2_with fail
      (try simp only [Exit.inBlock, Exit.then])
      refine bodyPost_ret (res_three rfl _ _ (w.heap.size + 1) (w.heap.size + 2) 34 36 (citeC (⟨20, (rl.length : Int), z⟩ : Fz) (.slice AP pp.length cP) (a8.length : Int) (.slice AQ qq.length cQ) hd).toArray #[.int .i64 rk.win, .int .i64 rk.idx, .int .i64 rk.time, .string (bs rk.pay)] _ _ rfl hC2 Tryz.underlying34 rfl (size_ct hz32 h1 h2) rfl hR2 Tryz.underlying36 rfl hsk) rfl ?_
      rw [Hcite.out, Hrk.out]
      exact ⟨.slice AP pp.length cP, .slice AQ qq.length cQ, rfl, hP12.less (by omega), hQ12.less (by omega), hap, e12⟩

theorem cited_more (wd : Wd) (hpay : ∀ r ∈ wd.recs, r.pay.length ≤ 9223372036854775807) (hkey : wd.key.length ≤ 9223372036854775807) (hah : AllH wd.ahead) (hbh : AllH wd.behind) (A : Option Addr) (ca : Nat) (q s : Value) (hca : wd.recs.length ≤ ca) (hca2 : ca ≤ 9223372036854775807) (w : World) (hr : Rd w w.heap.size A (flatR wd.recs)) (hq : SlS w w.heap.size q wd.ahead) (hs : SlS w w.heap.size s wd.behind) (hne : wd.recs ≠ []) :
    Calls Tryz.prog 8 #[.agg #[.slice A wd.recs.length ca, q, s, .int .i64 wd.which, .string (bs wd.key)]] w fun e w' => ∃ P Q, e = .returned (.tuple #[citeV wd.cite.fz P wd.cite.place Q wd.cite.hd, wd.rec_.v, .bool true]) ∧ OwnS w' w.heap.size P wd.cite.path ∧ OwnS w' w.heap.size Q wd.cite.super ∧ Ext w w' :=
  (cited_more2 wd hpay hkey hah hbh A ca q s hca hca2 w hr hq hs hne).mono fun e w' ⟨P, Q, h1, h2, h3, _, h5⟩ => ⟨P, Q, h1, h2, h3, h5⟩

end Go.Proofs.YtcgnjdkennkheaaGreatDoor

namespace Go.Proofs.YtcgnjdkennkheaaGreatDoor
open Go.ChangeShapes Go.WideShapes Go.ChangeAt Go.RowKit
open Seal (Fz Hd St Ct)
attribute [local go_sem] bs_size bs_toList2 bs_append bs_extract_end bs_extract_begin bs_get wrap64_b grow_cell grow_frozen


theorem built_rc0 : Tryz.prog.built 36 [] = some #[.int .i64 0, .int .i64 0, .int .i64 0, .string ⟨#[]⟩] := by rfl
set_option maxHeartbeats 4000000 in
theorem cited_none (A : Option Addr) (ca : Nat) (q s : Value) (wh : Int) (key : List UInt8) (w : World) :
    Calls Tryz.prog 8 #[.agg #[.slice A 0 ca, q, s, .int .i64 wh, .string (bs key)]] w fun e w' => e = .returned (.tuple #[citeV Seal.zF (.slice none 0 0) 0 (.slice none 0 0) Seal.zH, Rc.v ⟨0, 0, 0, []⟩, .bool false]) ∧ Ext w w' := by
  have hB : BaseW w (((w.alloc (.cells #[.slice A 0 ca, q, s, .int .i64 wh, .string (bs key)] 25)).alloc (.cells Tryz.zeroCells34 34)).alloc (.cells #[.int .i64 0, .int .i64 0, .int .i64 0, .string ⟨#[]⟩] 36)) (.slice A 0 ca) q s wh key := by
    refine ⟨?_, ?_, ?_, (((Ext.refl w).alloc _).alloc _).alloc _⟩
    · exact Blk.alloc (Blk.alloc (Blk.new w _ _) _) _
    · have := Blk.new (w.alloc (.cells #[.slice A 0 ca, q, s, .int .i64 wh, .string (bs key)] 25)) 34 Tryz.zeroCells34
      rw [alloc_size] at this
      exact Blk.alloc (this) _
    · have := Blk.new ((w.alloc (.cells #[.slice A 0 ca, q, s, .int .i64 wh, .string (bs key)] 25)).alloc (.cells Tryz.zeroCells34 34)) 36 #[.int .i64 0, .int .i64 0, .int .i64 0, .string ⟨#[]⟩]
      rw [alloc_size, alloc_size] at this
      exact this
  go_enter Tryz.func8, Tryz.ntmps8
  go_wp2_with (refine stop_at 31 rfl ?_)
  refine ⟨?_⟩
  change wpList _ _ _ _ _ (((w.alloc (.cells #[.slice A 0 ca, q, s, .int .i64 wh, .string (bs key)] 25)).alloc (.cells Tryz.zeroCells34 34)).alloc (.cells #[.int .i64 0, .int .i64 0, .int .i64 0, .string ⟨#[]⟩] 36))
  generalize (((w.alloc (.cells #[.slice A 0 ca, q, s, .int .i64 wh, .string (bs key)] 25)).alloc (.cells Tryz.zeroCells34 34)).alloc (.cells #[.int .i64 0, .int .i64 0, .int .i64 0, .string ⟨#[]⟩] 36)) = w0 at *
  refine wpList_build_to rfl 34 _ rfl _ (by rw [Array.toList_map]; rfl) _ built_ct0 ?_
  simp only [Act.put, List.setIfInBounds_toArray, List.set_cons_zero, List.set_cons_succ]
  refine wpList_build_to rfl 36 _ rfl _ (by rw [Array.toList_map]; rfl) _ built_rc0 ?_
  simp only [Act.put, List.setIfInBounds_toArray, List.set_cons_zero, List.set_cons_succ]
  refine wpList_store_row rfl 34 (.tmp 2) (.tmp 31) rfl (w.heap.size + 1) (citeC Seal.zF (.slice none 0 0) 0 (.slice none 0 0) Seal.zH).toArray (by rfl) (by rfl) 34 _ hB.2.1 (size_ct (by rfl) (by rfl) (by rfl)) (by rfl) (all_oneCell_toArray (citeC_one (by rfl) (by rfl))) ?_
  simp only [Act.put, List.setIfInBounds_toArray, List.set_cons_zero, List.set_cons_succ]
  have hRr : RecAt (w0.setRow (w.heap.size + 1) (citeC Seal.zF (.slice none 0 0) 0 (.slice none 0 0) Seal.zH).toArray) (w.heap.size + 2) ⟨0, 0, 0, []⟩ := Blk.rowFar hB.2.2.1 (show w.heap.size + 2 ≠ w.heap.size + 1 by omega) _
  refine wpList_store_row rfl 36 (.tmp 3) (.tmp 32) rfl (w.heap.size + 2) #[.int .i64 0, .int .i64 0, .int .i64 0, .string ⟨#[]⟩] (by rfl) (by rfl) 36 _ hRr (size_rc ⟨0, 0, 0, []⟩) (by rfl) (by simp [Value.oneCell']) ?_
  simp only [Act.put, List.setIfInBounds_toArray, List.set_cons_zero, List.set_cons_succ]
  have hC2 := Blk.rowFar (Blk.row hB.2.1 (citeC Seal.zF (.slice none 0 0) 0 (.slice none 0 0) Seal.zH).toArray) (show w.heap.size + 1 ≠ w.heap.size + 2 by omega) #[.int .i64 0, .int .i64 0, .int .i64 0, .string ⟨#[]⟩]
  have hR2 := Blk.row hRr #[.int .i64 0, .int .i64 0, .int .i64 0, .string ⟨#[]⟩]
  have e12 := (hB.2.2.2.row (show w.heap.size ≤ w.heap.size + 1 by omega) (citeC Seal.zF (.slice none 0 0) 0 (.slice none 0 0) Seal.zH).toArray).row (show w.heap.size ≤ w.heap.size + 2 by omega) #[.int .i64 0, .int .i64 0, .int .i64 0, .string ⟨#[]⟩]
  go_wp2_with fail
  (try simp only [Exit.inBlock, Exit.then])
  exact bodyPost_ret (res_three rfl _ _ (w.heap.size + 1) (w.heap.size + 2) 34 36 _ _ _ _ rfl hC2 Tryz.underlying34 rfl (size_ct (by rfl) (by rfl) (by rfl)) rfl hR2 Tryz.underlying36 rfl (size_rc ⟨0, 0, 0, []⟩)) rfl ⟨rfl, e12⟩

end Go.Proofs.YtcgnjdkennkheaaGreatDoor

namespace Go.Proofs.YtcgnjdkennkheaaGreatDoor
open Go.ChangeShapes Go.WideShapes Go.ChangeAt Go.RowKit
open Seal (Fz Hd St Ct)

theorem right_path (l : List (List UInt8)) (k : Nat) (hk : k < l.length) (h : l.length ≤ 1099511627776) : rightB (rootS l) l[k] (k : Int) (l.length : Int) (pathS l k) = true := by
  have hlong : Way.longI (k : Int) (l.length : Int) = ((pathS l k).length : Int) := by
    unfold Way.longI
    rw [if_neg (by omega), Way.path_length nodeB emptyB l.length l k rfl]
    simp
  have ht : Way.turnsI (k : Int) (l.length : Int) = Way.turns k l.length := by
    unfold Way.turnsI
    rw [if_neg (by omega)]
    simp
  unfold rightB foldP
  rw [if_pos hlong, ht, Way.fold_path nodeB emptyB l.length l k hk rfl]
  simp

theorem hd_right (key : List UInt8) (s c : Int) (r : List UInt8) : (Hd.sign key s r c).rightB key = decide (Hd.may (Hd.sign key s r c)) ∧ ((Hd.sign key s r c).outE == 0) = decide (Hd.may (Hd.sign key s r c)) ∧
    ∀ z, Hd.rightB key ⟨s, r, c, z⟩ = (decide (Hd.may (Hd.sign key s r c)) && decide ((⟨s, r, c, z⟩ : Hd) = Hd.sign key s r c)) := by
  by_cases hm : Hd.may (Hd.sign key s r c)
  · have hm2 : Hd.may ⟨s, r, c, List.replicate 32 0⟩ := hm
    have hmac : (Hd.sign key s r c).mac = macOf key (Hd.says ⟨s, r, c, []⟩) := by
      show Seal.signB _ _ _ = _
      rw [(Seal.Hd.out_ok _ hm2).1, (Seal.Hd.out_ok _ hm2).2.2]
      rfl
    refine ⟨?_, ?_, fun z => ?_⟩
    · unfold Seal.Hd.rightB
      rw [Bool.eq_iff_iff, decide_eq_true_eq, decide_eq_true_eq]
      exact ⟨fun h => h.1, fun h => ⟨h, hmac⟩⟩
    · rw [(Seal.Hd.out_ok _ hm).2.2]
      simp [hm]
    · unfold Seal.Hd.rightB
      rw [Bool.eq_iff_iff, decide_eq_true_eq, Bool.and_eq_true, decide_eq_true_eq, decide_eq_true_eq]
      constructor
      · rintro ⟨_, h⟩
        refine ⟨hm, ?_⟩
        have : z = (Hd.sign key s r c).mac := by rw [hmac]; exact h
        rw [this]
        rfl
      · rintro ⟨_, h⟩
        refine ⟨hm, ?_⟩
        have : z = (Hd.sign key s r c).mac := by rw [← h]
        rw [this, hmac]
        rfl
  · refine ⟨?_, ?_, fun z => ?_⟩
    · unfold Seal.Hd.rightB
      rw [Bool.eq_iff_iff, decide_eq_true_eq, decide_eq_true_eq]
      exact ⟨fun h => h.1, fun h => absurd h hm⟩
    · rw [(Seal.Hd.out_no _ hm).2.2]
      simp [hm]
    · unfold Seal.Hd.rightB
      rw [Bool.eq_iff_iff, decide_eq_true_eq, Bool.and_eq_true, decide_eq_true_eq, decide_eq_true_eq]
      exact ⟨fun h => absurd h.1 hm, fun h => absurd h.1 hm⟩
theorem rcs_get (l : List Rc) (i : Nat) (hi : i < l.length) : (rcs l).getD i ⟨0, 0, 0, []⟩ = ⟨20, (i : Int), l[i].time % 1024, l[i].pay.take 60⟩ := by
  rw [List.getD_eq_getElem?_getD, List.getElem?_eq_getElem (by rw [rcs_length]; exact hi), Option.getD_some]
  simp [rcs]
theorem map_at {α β : Type} (g : α → β) (l : List α) (m : List β) (hm : m = l.map g) (k : Nat) (x : α) (h : l[k]? = some x) (hk : k < m.length) : m[k] = g x := by
  subst hm
  obtain ⟨h1, h2⟩ := List.getElem?_eq_some_iff.1 h
  rw [List.getElem_map, h2]
namespace Wd
variable (w : Wd)
theorem rl_length : w.rl.length = min 10 w.recs.length := by unfold rl; rw [List.length_take]
theorem rl_pos (h : w.recs ≠ []) : 0 < w.rl.length := by have := List.length_pos_iff.2 h; rw [rl_length]; omega
theorem k_lt (h : w.recs ≠ []) : w.k < w.rl.length := by
  have := rl_pos w h
  unfold k
  rw [Int.natAbs_tmod]
  exact Nat.mod_lt _ (by simpa using this)
theorem leaves_all : AllH w.leaves := fun s hs => by
  obtain ⟨f, _, rfl⟩ := List.mem_map.1 hs
  exact leafB_length _
theorem leaves_length : w.leaves.length = w.rl.length := by unfold leaves rows; rw [List.length_map, rcs_length]
theorem rec_is (h : w.recs ≠ []) : w.rec_ = ⟨20, (w.k : Int), (w.rl[w.k]'(w.k_lt h)).time % 1024, (w.rl[w.k]'(w.k_lt h)).pay.take 60⟩ := rcs_get w.rl w.k (w.k_lt h)
theorem rec_pay (h : w.recs ≠ []) : w.rec_.pay.length ≤ 60 := by rw [rec_is w h, List.length_take]; omega
theorem rec_may (h : w.recs ≠ []) : w.rec_.may := by
  have hk := w.k_lt h
  have := w.rl_length
  rw [rec_is w h]
  unfold Rc.may
  simp only
  omega
theorem rec_check (h : w.recs ≠ []) : w.rec_.check = 0 := (Rc.check_0 _ (w.rec_may h) (by have := w.rec_pay h; omega)).symm
theorem leaf_at (h : w.recs ≠ []) (hk : w.k < w.leaves.length) : w.leaves[w.k] = leafB w.rec_.outB := by
  have hk2 : w.k < w.rows.length := by unfold rows; rw [rcs_length]; exact w.k_lt h
  have hs : w.rows[w.k]? = some w.rec_ := by
    unfold rec_
    rw [List.getD_eq_getElem?_getD, List.getElem?_eq_getElem hk2, Option.getD_some]
  have hm : w.leaves = w.rows.map fun r => leafB r.outB := by unfold leaves; rfl
  exact map_at _ _ _ hm _ _ hs hk
theorem fz_root : w.fz.root.length = 32 := rootS_length _ w.leaves_all
theorem fz_may (h : w.recs ≠ []) : w.fz.may := by
  have h1 := w.rl_pos h
  have h2 := w.rl_length
  unfold fz Seal.Fz.may
  simp only
  omega
theorem fl_length : w.fl.length = w.place + 1 + (w.behind.take 8).length := by unfold fl place; rw [List.length_append, List.length_append, rowF_length, rowF_length, List.length_singleton]
theorem fl_le : w.fl.length ≤ 17 := by rw [fl_length]; unfold place; rw [List.length_take, List.length_take]; omega
theorem place_lt : w.place < w.fl.length := by rw [fl_length]; omega
theorem fl_some : w.fl[w.place]? = some w.fz := by
  unfold fl
  rw [List.getElem?_append_left (by rw [List.length_append, rowF_length, List.length_singleton]; exact Nat.lt_succ_self _), List.getElem?_append_right (by rw [rowF_length]; exact Nat.le_refl _)]
  simp [rowF_length, place]
theorem fl_at (hp : w.place < (leavesF w.fl).length) : (leavesF w.fl)[w.place] = leafB w.fz.outB :=
  map_at _ _ _ (show leavesF w.fl = w.fl.map fun f => leafB f.outB by unfold leavesF; rfl) _ _ w.fl_some hp
theorem cite_ok : w.cite.ok := ⟨w.fz_root, rootS_length _ (leavesF_all _), Seal.signB_length _ _ _, path_all _ _ _ rfl w.leaves_all, path_all _ _ _ rfl (leavesF_all _)⟩
theorem cite_fit : fitC w.cite := by
  have h1 := pathS_le w.leaves w.k
  have h2 := pathS_le (leavesF w.fl) w.place
  have h3 := w.leaves_length
  have h4 := w.rl_length
  have h5 := leavesF_length w.fl
  have h6 := w.fl_le
  refine ⟨w.cite_ok, ?_, ?_, ?_, ?_⟩
  · show (w.rl.length : Int) ≤ _
    omega
  · show (w.fl.length : Int) ≤ _
    omega
  · show (pathS w.leaves w.k).length ≤ _
    omega
  · show (pathS (leavesF w.fl) w.place).length ≤ _
    omega
/-- The cite of a world's record is right just if its head is. -/
theorem right (h : w.recs ≠ []) (key : List UInt8) : rightCB key w.rec_ w.cite = w.cite.hd.rightB key := by
  have hk : w.k < w.leaves.length := by rw [leaves_length]; exact w.k_lt h
  have hp : w.place < (leavesF w.fl).length := by rw [leavesF_length]; exact w.place_lt
  have hr := w.rec_is h
  have e1 : baseB w.rec_.win w.cite = true := by
    unfold baseB
    rw [hr]
    have : w.cite.fz.may := w.fz_may h
    simp only [this, decide_true, Bool.true_and, decide_eq_true_eq]
    rfl
  have e2 : shardB w.rec_.idx (leafB w.rec_.outB) w.cite = true := by
    have := right_path w.leaves w.k hk (by rw [leaves_length]; have := w.rl_length; omega)
    rw [w.leaf_at h hk, leaves_length] at this
    unfold shardB
    rw [show w.rec_.idx = (w.k : Int) by rw [hr]]
    exact this
  have e3 : superB w.cite = true := by
    have := right_path (leavesF w.fl) w.place hp (by rw [leavesF_length]; have := w.fl_le; omega)
    rw [w.fl_at hp, leavesF_length] at this
    exact this
  unfold rightCB leafRightB
  rw [w.rec_check h, e1, e2, e3]
  simp
end Wd
section
variable {H : Type} {enc : TypeId × Value → H} {W : World} {base : Nat} {v : Value}
theorem tr_rcs {c : Value} (h : Tr enc W 22 [c]) : ∃ A cap, ∃ l : List Rc, c = .slice A l.length cap ∧ Rd W W.heap.size A (flatR l) ∧ l.length ≤ cap ∧ cap ≤ 9223372036854775807 ∧ ∀ r ∈ l, r.fit ∧ r.pay.length ≤ 9223372036854775807 := by
  have hk : Tryz.prog.cellsOf 36 = 4 := by kernel_rfl
  obtain ⟨A, n, cap, X, hc, hX, hr, hn, hm, hel⟩ := tr_slice Tryz.underlying22 (by rw [hk]; omega) h
  rw [hk] at hX hel
  obtain ⟨l, hl, hq, rfl⟩ := chunks Rc.cells (fun r => r.fit ∧ r.pay.length ≤ 9223372036854775807) 4 (fun _ _ => rfl) n X hX (fun i hi => by
    obtain ⟨r, hr, hw⟩ := tr_rec (hel i hi)
    exact ⟨r, hw, hr⟩)
  subst hl
  injection hc with hc
  exact ⟨A, cap, l, hc, hr, hn, by unfold maxLen at hm; omega, hq⟩
theorem tr_sls {c : Value} (h : Tr enc W 23 [c]) : ∃ l, SlS W W.heap.size c l ∧ AllH l := by
  have hk : Tryz.prog.cellsOf 28 = 32 := by kernel_rfl
  have h' := h
  obtain ⟨A, n, cap, X, hc, hX, hr, hn, hm, hel⟩ := tr_slice Tryz.underlying23 (by rw [hk]; omega) h
  rw [hk] at hX hel
  obtain ⟨l, hl, hq, rfl⟩ := chunks hcells (fun s => s.length = 32) 32 (fun s hs => by rw [hcells_length, hs]) n X hX (fun i hi => by
    obtain ⟨s, hs, hw⟩ := tr_sum (hel i hi)
    exact ⟨s, hw, hs⟩)
  subst hl
  injection hc with hc
  subst hc
  have hq' : AllH l := hq
  refine ⟨l, ⟨A, cap, rfl, ?_, hn, by unfold maxLen at hm; omega, hr⟩, hq'⟩
  by_cases hl0 : l = []
  · subst hl0
    by_cases hc0 : cap = 0
    · subst hc0
      refine .inl ⟨?_, rfl, rfl⟩
      cases A with
      | none => exact .inl rfl
      | some a => exact .inr ⟨a, rfl⟩
    · obtain ⟨n, x, hn⟩ := h'
      rcases Go.Deep.open_slice Tryz.underlying23 hn with ⟨h1, _⟩ | ⟨a, len, cap', m, n', D, Pl, h1, _, hlc, hcm, hmm, _, hall⟩
      · simp only [List.cons.injEq, Value.slice.injEq, and_true] at h1
        exact absurd h1.2.2 hc0
      · simp only [List.cons.injEq, Value.slice.injEq, and_true] at h1
        obtain ⟨rfl, rfl, rfl⟩ := h1
        refine .inr ?_
        have hm0 : m = cap := by simpa using hmm
        obtain ⟨cs', hcs, _⟩ := hall 0 (by omega)
        obtain ⟨_, hl', hat⟩ := World.cells?_some hcs
        have h2 := hat 0 (by rw [hk]; omega)
        rw [Nat.zero_mul, Go.Deep.add_add, Nat.add_zero, List.getElem?_eq_getElem (by rw [hl', hk]; omega)] at h2
        obtain ⟨b, off, spot⟩ := a
        have hspot : spot = none := by simpa [Addr.add] using World.cell?_spot h2
        subst hspot
        exact ⟨b, off, rfl⟩
  · obtain ⟨b, off, rfl, _, _⟩ := hr (by
      intro e
      have := flatS_length l hq'
      rw [show flatS l = l.flatMap hcells from rfl, e] at this
      exact hl0 (List.eq_nil_of_length_eq_zero (by simp at this; omega)))
    exact .inr ⟨b, off, rfl⟩
/-- A world as a value. -/
def WdV (W : World) (wd : Wd) (A : Option Addr) (ca : Nat) (q s : Value) : Prop :=
  (∀ r ∈ wd.recs, r.pay.length ≤ 9223372036854775807) ∧ wd.key.length ≤ 9223372036854775807 ∧ AllH wd.ahead ∧ AllH wd.behind ∧ wd.recs.length ≤ ca ∧ ca ≤ 9223372036854775807 ∧ Rd W W.heap.size A (flatR wd.recs) ∧ SlS W W.heap.size q wd.ahead ∧ SlS W W.heap.size s wd.behind
theorem op_wd (hv : Value.okWide Tryz.prog W .any base 25 v) (h : Tr enc W 25 v.cells.toList) : ∃ (wd : Wd) (A : Option Addr) (ca : Nat) (q s : Value), v = .agg #[.slice A wd.recs.length ca, q, s, .int .i64 wd.which, .string (bs wd.key)] ∧ WdV W wd A ca q s := by
  have hk : Tryz.prog.cellsOf 25 = 5 := by kernel_rfl
  have hkr : Tryz.prog.cellsOf 22 = 1 := by kernel_rfl
  have hks : Tryz.prog.cellsOf 23 = 1 := by kernel_rfl
  have hki : Tryz.prog.cellsOf 3 = 1 := by kernel_rfl
  have hkt : Tryz.prog.cellsOf 9 = 1 := by kernel_rfl
  obtain ⟨cs, rfl⟩ := okWide_agg Tryz.underlying25 hv
  obtain ⟨hl, hf⟩ := tr_struct Tryz.underlying25 h
  obtain ⟨cs⟩ := cs
  simp only [Value.cells] at hl hf
  rw [hk] at hl
  match cs, hl with
  | [a, b, c, d, e], _ =>
    have h0 : Tr enc W 22 (([a, b, c, d, e].drop 0).take (Tryz.prog.cellsOf 22)) := hf 0 _ rfl
    have h1 : Tr enc W 23 (([a, b, c, d, e].drop 1).take (Tryz.prog.cellsOf 23)) := hf 1 _ rfl
    have h2 : Tr enc W 23 (([a, b, c, d, e].drop 2).take (Tryz.prog.cellsOf 23)) := hf 2 _ rfl
    have h3 : Tr enc W 3 (([a, b, c, d, e].drop 3).take (Tryz.prog.cellsOf 3)) := hf 3 _ rfl
    have h4 : Tr enc W 9 (([a, b, c, d, e].drop 4).take (Tryz.prog.cellsOf 9)) := hf 4 _ rfl
    rw [hkr] at h0
    rw [hks] at h1 h2
    rw [hki] at h3
    rw [hkt] at h4
    simp only [List.drop_zero, List.drop_succ_cons, List.take_succ_cons, List.take_zero] at h0 h1 h2 h3 h4
    obtain ⟨A, ca, l, rfl, g1, g2, g3, g4⟩ := tr_rcs h0
    obtain ⟨la, s1, n1⟩ := tr_sls h1
    obtain ⟨lb, s2, n2⟩ := tr_sls h2
    obtain ⟨i, e3, w3⟩ := tr_int Tryz.underlying3 h3
    obtain ⟨k, e4, w4⟩ := tr_string Tryz.underlying9 h4
    injection e3 with e3
    injection e4 with e4
    exact ⟨⟨l, la, lb, i, k⟩, A, ca, b, c, by rw [e3, e4]; rfl, fun r hr => (g4 r hr).2, by unfold maxLen at w4; simp only; omega, n1, n2, g2, g3, g1, s1, s2⟩
end

end Go.Proofs.YtcgnjdkennkheaaGreatDoor

namespace Go.Proofs.YtcgnjdkennkheaaGreatDoor
open Go.ChangeShapes Go.WideShapes Go.ChangeAt Go.RowKit
open Seal (Fz Hd St Ct)
attribute [local go_sem] bs_size bs_toList2 bs_append bs_extract_end bs_extract_begin bs_get wrap64_b grow_cell grow_frozen

/-- Are there, of two texts and their ways, two unlike texts at one place that have one hash? -/
def metB : List Bool → List (List UInt8) → List (List UInt8) → List UInt8 → List UInt8 → Bool
  | b :: ts, h :: hs, g :: gs, s, t => decide (s ≠ t ∧ shaOf s = shaOf t) || metB ts hs gs (if b then preB h (shaOf s) else preB (shaOf s) h) (if b then preB g (shaOf t) else preB (shaOf t) g)
  | _, _, _, s, t => decide (s ≠ t ∧ shaOf s = shaOf t)
theorem pre_inj2 {a b c d : List UInt8} (h1 : a.length = 32) (h2 : c.length = 32) (h : preB a b = preB c d) : a = c ∧ b = d := by
  unfold preB at h
  injection h with _ h
  exact List.append_inj h (by omega)
theorem met_yes : ∀ (ts : List Bool) (hs gs : List (List UInt8)) (s t : List UInt8), ts.length = hs.length → ts.length = gs.length → AllH hs → AllH gs →
    Way.foldW nodeB (shaOf s) ts hs = Way.foldW nodeB (shaOf t) ts gs → s ≠ t → metB ts hs gs s t = true
  | [], hs, gs, s, t, _, _, _, _, hf, hne => by
    rw [Way.foldW_nil, Way.foldW_nil] at hf
    unfold metB
    simp [hne, hf]
  | _ :: _, [], _, s, t, h1, _, _, _, _, _ => by simp at h1
  | _ :: _, _ :: _, [], s, t, _, h2, _, _, _, _ => by simp at h2
  | b :: ts, h :: hs, g :: gs, s, t, h1, h2, ah, ag, hf, hne => by
    unfold metB
    by_cases he : shaOf s = shaOf t
    · simp [hne, he]
    · rw [Bool.or_eq_true]
      right
      rw [Way.foldW_cons, Way.foldW_cons] at hf
      have e1 : ∀ a c : List UInt8, (if b then nodeB c a else nodeB a c) = shaOf (if b then preB c a else preB a c) := fun a c => by cases b <;> rfl
      rw [e1, e1] at hf
      refine met_yes ts hs gs _ _ (by simpa using h1) (by simpa using h2) ah.tail ag.tail hf ?_
      have l1 := shaOf_length s
      have l2 := shaOf_length t
      have l3 : h.length = 32 := ah h (by simp)
      have l4 : g.length = 32 := ag g (by simp)
      intro hh
      cases b
      · exact he (pre_inj2 l1 l2 hh).1
      · exact he (pre_inj2 l3 l4 hh).2
theorem preB_len (a b : List UInt8) (h1 : a.length = 32) (h2 : b.length = 32) : (preB a b).length = 65 := by
  unfold preB
  simp [h1, h2]

set_option maxHeartbeats 8000000 in
theorem met_calls (m n : Int) (s t : List UInt8) (hs : s.length ≤ 1000000) (ht : t.length ≤ 1000000) (a b : List (List UInt8)) (ha : AllH a) (hb : AllH b) (hla : (Way.turnsI m n).length = a.length) (hlb : (Way.turnsI m n).length = b.length) (P Q : Value) (w : World) (hP : SlS w w.heap.size P a) (hQ : SlS w w.heap.size Q b) :
    Calls Tryz.prog 21 #[.int .i64 m, .int .i64 n, .string (bs s), .string (bs t), P, Q] w fun e w' => e = .returned (.bool (metB (Way.turnsI m n) a b s t)) ∧ Ext w w' := by
  obtain ⟨A, ca, rfl, hAa, hca, hca63, hra⟩ := hP
  obtain ⟨B, cb, rfl, hAb, hcb, hcb63, hrb⟩ := hQ
  have HT0 := fun w => refTurns_calls m n w
  generalize Way.turnsI m n = T at *
  obtain ⟨res, hres⟩ : ∃ r, r = metB T a b s t := ⟨_, rfl⟩
  rw [← hres]
  have j0 : ((a.length : Int) != (T.length : Int)) = false := by rw [hla]; simp
  have j00 : ((b.length : Int) != (T.length : Int)) = false := by rw [hlb]; simp
  have HLa := Lib.hid hla; have HLb := Lib.hid hlb; have HRes := Lib.hid hres; have HT := Lib.hid HT0
  clear hla hlb hres HT0
  go_enter Tryz.func21, Tryz.ntmps21
  go_wp2_with fail
  refine (HT.out _).mono ?_; rintro e w1 ⟨v, rfl, hO, e1⟩
  obtain ⟨BT, cT, rfl, hrdT, -, -, -⟩ := own_rd hO
  clear hO HT
  go_wp2_with fail
  go_loopw [2, 3, 14] (fun s2 s3 s14 wr => ∃ (i : Nat) (x y : List UInt8), i ≤ T.length ∧ s14 = .int .i64 (i : Int) ∧ s2 = .string (bs x) ∧ s3 = .string (bs y) ∧ x.length ≤ 1000000 ∧ y.length ≤ 1000000 ∧ metB (T.drop i) (a.drop i) (b.drop i) x y = res ∧ Ext w1 wr) (fun _ _ s14 _ => T.length + 1 - (intOf s14).toNat)
  case atStart => exact ⟨0, s, t, Nat.zero_le _, rfl, rfl, rfl, hs, ht, HRes.out.symm, Ext.refl _⟩
  case round =>
    obtain ⟨wo, rfl⟩ : ∃ wo : World, wo = wr := ⟨_, rfl⟩
    obtain ⟨i, x, y, hi, rfl, rfl, rfl, hx, hy, hmet, hX1⟩ := hrel
    have Hm := Lib.hid hmet
    have hiI : (i : Int) ≤ (T.length : Int) := by omega
    have hiD : decide ((i : Int) ≤ (T.length : Int)) = true := by simpa using hiI
    clear hmet
    have hX32 := shaOf_length x
    have hY32 := shaOf_length y
    obtain ⟨X, hXe⟩ : ∃ X, X = shaOf x := ⟨_, rfl⟩
    obtain ⟨Y, hYe⟩ : ∃ Y, Y = shaOf y := ⟨_, rfl⟩
    rw [← hXe] at hX32
    rw [← hYe] at hY32
    have HX := Lib.hid hXe; have HY := Lib.hid hYe
    clear hXe hYe
    go_wp2_with fail
    refine (refOf_calls x _ (by omega)).mono ?_; rw [← HX.out]; rintro e w2 ⟨rfl, e2⟩
    unfold sumV
    go_wp2_with (refine stop_store 28 (.tmp 15) (.tmp 39) rfl ?_)
    refine ⟨?_⟩
    change wpList _ _ _ _ _ (w2.alloc (.cells ((zerosB 32).map byteV).toArray 28))
    have hXB0 : ArrB (w2.alloc (.cells ((zerosB 32).map byteV).toArray 28)) w2.heap.size 28 (zerosB 32) := Blk.new _ _ _
    refine wpList_store_row rfl 28 (.tmp 15) (.tmp 39) rfl w2.heap.size ((X).map byteV).toArray (by rfl) (by rfl) 28 _ hXB0 (size32.trans (by simp [hX32])) (by simp [hX32, zerosB]) (by simp [byteV, Value.oneCell']) ?_
    simp only [Act.put, List.setIfInBounds_toArray, List.set_cons_zero, List.set_cons_succ]
    have hXB : ArrB ((w2.alloc (.cells ((zerosB 32).map byteV).toArray 28)).setRow w2.heap.size ((X).map byteV).toArray) w2.heap.size 28 (X) := Blk.row hXB0 _
    have e3 : Ext w2 ((w2.alloc (.cells ((zerosB 32).map byteV).toArray 28)).setRow w2.heap.size ((X).map byteV).toArray) := ((Ext.refl w2).alloc _).row (Nat.le_refl _) _
    clear hXB0
    generalize (w2.alloc (.cells ((zerosB 32).map byteV).toArray 28)).setRow w2.heap.size ((X).map byteV).toArray = w3 at *
    obtain ⟨gx, hgx⟩ : ∃ g, g = w2.heap.size := ⟨_, rfl⟩
    rw [← hgx] at hXB
    try rw [← hgx]
    clear hgx
    go_wp2_with fail
    refine (refOf_calls y _ (by omega)).mono ?_; rw [← HY.out]; rintro e w4 ⟨rfl, e4⟩
    replace hXB := Blk.below hXB e4 (Blk.lt hXB)
    unfold sumV
    go_wp2_with (refine stop_store 28 (.tmp 16) (.tmp 41) rfl ?_)
    refine ⟨?_⟩
    change wpList _ _ _ _ _ (w4.alloc (.cells ((zerosB 32).map byteV).toArray 28))
    have hYB0 : ArrB (w4.alloc (.cells ((zerosB 32).map byteV).toArray 28)) w4.heap.size 28 (zerosB 32) := Blk.new _ _ _
    refine wpList_store_row rfl 28 (.tmp 16) (.tmp 41) rfl w4.heap.size ((Y).map byteV).toArray (by rfl) (by rfl) 28 _ hYB0 (size32.trans (by simp [hY32])) (by simp [hY32, zerosB]) (by simp [byteV, Value.oneCell']) ?_
    simp only [Act.put, List.setIfInBounds_toArray, List.set_cons_zero, List.set_cons_succ]
    have hYB : ArrB ((w4.alloc (.cells ((zerosB 32).map byteV).toArray 28)).setRow w4.heap.size ((Y).map byteV).toArray) w4.heap.size 28 (Y) := Blk.row hYB0 _
    have e5 : Ext w4 ((w4.alloc (.cells ((zerosB 32).map byteV).toArray 28)).setRow w4.heap.size ((Y).map byteV).toArray) := ((Ext.refl w4).alloc _).row (Nat.le_refl _) _
    clear hYB0
    generalize (w4.alloc (.cells ((zerosB 32).map byteV).toArray 28)).setRow w4.heap.size ((Y).map byteV).toArray = w5 at *
    replace hXB := Blk.below hXB e5 (Blk.lt hXB)
    obtain ⟨gy, hgy⟩ : ∃ g, g = w4.heap.size := ⟨_, rfl⟩
    rw [← hgy] at hYB
    try rw [← hgy]
    clear hgy
    have hE45 : Ext wo w5 := ((e2.trans e3).trans e4).trans e5
    have hE5 : Ext w w5 := (e1.trans hX1).trans hE45
    have hE15 : Ext w1 w5 := hX1.trans hE45
    have hlX := Blk.lt hXB
    have hlY := Blk.lt hYB
    clear e2 e3 e4 e5
    have hgw := guard_sum
    by_cases hxy : x = y
    · have n1 : (x != y) = false := by simp [hxy]
      have n2 : (x == y) = true := by simp [hxy]
      have Hno : Hid (¬ (x ≠ y ∧ shaOf x = shaOf y)) := Lib.hid (fun h => h.1 hxy)
      clear hxy
      by_cases hlt : i < T.length
      · have hia : i < a.length := by have := HLa.out; omega
        have hib : i < b.length := by have := HLb.out; omega
        have j1 : ((i : Int) == (T.length : Int)) = false := by rw [beq_eq_false_iff_ne]; omega
        have j2 : (i : Int) < (T.length : Int) := by omega
        have j3 : (i : Int) < (a.length : Int) := by omega
        have j4 : (i : Int) < (b.length : Int) := by omega
        obtain ⟨bT, oT, rfl, hbT, hcT⟩ := (hrdT.below hX1 (Nat.le_refl _)) (map_ne Value.bool hlt)
        have cT0 := hcT i (.bool T[i]) (by simp [hlt])
        have cT1 : w5.cell? ⟨bT, oT + i, none⟩ = some (.bool T[i]) := by
          have hb2 : bT < wo.heap.size := Nat.lt_of_lt_of_le hbT hX1.size
          exact (World.cell?_of_block (hE45.block bT hb2)).trans cT0
        have hAoa : ∃ b off, A = some ⟨b, off, none⟩ := by
          rcases hAa with ⟨_, hl0, _⟩ | h
          · rw [hl0] at hia; simp at hia
          · exact h
        have hAob : ∃ b off, B = some ⟨b, off, none⟩ := by
          rcases hAb with ⟨_, hl0, _⟩ | h
          · rw [hl0] at hib; simp at hib
          · exact h
        obtain ⟨ba, oa, rfl⟩ := hAoa
        obtain ⟨bb, ob, rfl⟩ := hAob
        obtain ⟨hbla0, hma⟩ := rds_at (hra.below hE5 (Nat.le_refl _)) ha hia
        obtain ⟨hblb0, hmb⟩ := rds_at (hrb.below hE5 (Nat.le_refl _)) hb hib
        have hbla := Nat.lt_of_lt_of_le hbla0 hE5.size
        have hblb := Nat.lt_of_lt_of_le hblb0 hE5.size
        have hea := ha.get i hia
        have heb := hb.get i hib
        have hdr : T.drop i = T[i] :: T.drop (i + 1) := (List.getElem_cons_drop hlt).symm
        have hda : a.drop i = a[i] :: a.drop (i + 1) := (List.getElem_cons_drop hia).symm
        have hdb : b.drop i = b[i] :: b.drop (i + 1) := (List.getElem_cons_drop hib).symm
        have hm := Hm.out
        rw [hdr, hda, hdb] at hm
        unfold metB at hm
        rw [show decide (x ≠ y ∧ shaOf x = shaOf y) = false by rw [decide_eq_false_iff_not]; exact Hno.out, Bool.false_or, ← HX.out, ← HY.out] at hm
        generalize a[i] = ea at *
        generalize b[i] = eb at *
        clear hdr hda hdb hcT cT0 hbT hbla0 hblb0
        cases hti : T[i]
        · rw [hti] at hm cT1
          have Hnx : Hid (metB (T.drop (i + 1)) (a.drop (i + 1)) (b.drop (i + 1)) (preB X ea) (preB Y eb) = res) := Lib.hid hm
          clear hm hti Hm
          go_upto_region 16 with fail
          refine region_mix0 (by kernel_rfl) (by kernel_rfl) (fun z0 => ?_)
          refine mix_row (by rfl) (by rfl) 28 (.tmp 15) rfl gx (by rfl) _ _ _ hXB Tryz.underlying28 rfl (size32.trans (by simp [hX32])) ?_
          simp only [Act.put, List.setIfInBounds_toArray, List.set_cons_zero, List.set_cons_succ]
          iterate 3 (first | (refine mix_quiet (by rfl) (by rfl) (fun K hK => ?_); go_big_quiet_op; refine hK _ ?_; clear hK K) | (refine mix_skip (by rfl) ?_; simp only [Act.put, List.setIfInBounds_toArray, List.set_cons_zero, List.set_cons_succ]))
          refine mix_mid (by rfl) (by rfl) 28 (.tmp 73) rfl ba (oa + i * 32) (by rfl) _ _ hma hbla Tryz.underlying28 rfl (size32l _ hea) ?_
          simp only [Act.put, List.setIfInBounds_toArray, List.set_cons_zero, List.set_cons_succ]
          (refine mix_loud (by rfl) (by rfl) (fun K E hK => ?_); go_big_op)
          change Calls _ _ #[sumV X, sumV ea] _ _
          refine (refPreimage_calls X ea hX32 hea _).mono ?_; rintro e w9 ⟨rfl, hd'⟩
          obtain ⟨z1, rfl⟩ := more_ext z0 hd'
          refine hK _ _ ⟨_, rfl⟩ ?_; clear hK K E hd'
          repeat (first | (refine mix_quiet (by rfl) (by rfl) (fun K hK => ?_); go_big_quiet_op; refine hK _ ?_; clear hK K) | (refine mix_skip (by rfl) ?_; simp only [Act.put, List.setIfInBounds_toArray, List.set_cons_zero, List.set_cons_succ]))
          refine mix_nil ?_
          have eg := grow_ext z1
          generalize grow w5 z1 = w6 at *
          replace hXB := Blk.below hXB eg (Blk.lt hXB)
          replace hYB := Blk.below hYB eg (Blk.lt hYB)
          replace hmb := range_ext hmb eg hblb
          replace hblb := Nat.lt_of_lt_of_le hblb eg.size
          replace hE5 := hE5.trans eg
          replace hE15 := hE15.trans eg
          clear eg hma hbla
          go_upto_region 17 with fail
          refine region_mix0 (by kernel_rfl) (by kernel_rfl) (fun z2 => ?_)
          refine mix_row (by rfl) (by rfl) 28 (.tmp 16) rfl gy (by rfl) _ _ _ hYB Tryz.underlying28 rfl (size32.trans (by simp [hY32])) ?_
          simp only [Act.put, List.setIfInBounds_toArray, List.set_cons_zero, List.set_cons_succ]
          iterate 3 (first | (refine mix_quiet (by rfl) (by rfl) (fun K hK => ?_); go_big_quiet_op; refine hK _ ?_; clear hK K) | (refine mix_skip (by rfl) ?_; simp only [Act.put, List.setIfInBounds_toArray, List.set_cons_zero, List.set_cons_succ]))
          refine mix_mid (by rfl) (by rfl) 28 (.tmp 79) rfl bb (ob + i * 32) (by rfl) _ _ hmb hblb Tryz.underlying28 rfl (size32l _ heb) ?_
          simp only [Act.put, List.setIfInBounds_toArray, List.set_cons_zero, List.set_cons_succ]
          (refine mix_loud (by rfl) (by rfl) (fun K E hK => ?_); go_big_op)
          change Calls _ _ #[sumV Y, sumV eb] _ _
          refine (refPreimage_calls Y eb hY32 heb _).mono ?_; rintro e w9 ⟨rfl, hd'⟩
          obtain ⟨z3, rfl⟩ := more_ext z2 hd'
          refine hK _ _ ⟨_, rfl⟩ ?_; clear hK K E hd'
          repeat (first | (refine mix_quiet (by rfl) (by rfl) (fun K hK => ?_); go_big_quiet_op; refine hK _ ?_; clear hK K) | (refine mix_skip (by rfl) ?_; simp only [Act.put, List.setIfInBounds_toArray, List.set_cons_zero, List.set_cons_succ]))
          refine mix_nil ?_
          have eg := grow_ext z3
          generalize grow w6 z3 = w7 at *
          replace hE5 := hE5.trans eg
          replace hE15 := hE15.trans eg
          clear eg hmb hblb hXB hYB
          go_wp2_with fail
          go_roundw
          case rel => exact ⟨i + 1, preB X ea, preB Y eb, by omega, by go_num, rfl, rfl, by rw [preB_len _ _ hX32 hea]; omega, by rw [preB_len _ _ hY32 heb]; omega, Hnx.out, hE15⟩
          case measure => simp [intOf]; omega
        · rw [hti] at hm cT1
          have Hnx : Hid (metB (T.drop (i + 1)) (a.drop (i + 1)) (b.drop (i + 1)) (preB ea X) (preB eb Y) = res) := Lib.hid hm
          clear hm hti Hm
          go_upto_region 14 with fail
          refine region_mix0 (by kernel_rfl) (by kernel_rfl) (fun z0 => ?_)
          iterate 3 (first | (refine mix_quiet (by rfl) (by rfl) (fun K hK => ?_); go_big_quiet_op; refine hK _ ?_; clear hK K) | (refine mix_skip (by rfl) ?_; simp only [Act.put, List.setIfInBounds_toArray, List.set_cons_zero, List.set_cons_succ]))
          refine mix_mid (by rfl) (by rfl) 28 (.tmp 60) rfl ba (oa + i * 32) (by rfl) _ _ hma hbla Tryz.underlying28 rfl (size32l _ hea) ?_
          simp only [Act.put, List.setIfInBounds_toArray, List.set_cons_zero, List.set_cons_succ]
          refine mix_row (by rfl) (by rfl) 28 (.tmp 15) rfl gx (by rfl) _ _ _ hXB Tryz.underlying28 rfl (size32.trans (by simp [hX32])) ?_
          simp only [Act.put, List.setIfInBounds_toArray, List.set_cons_zero, List.set_cons_succ]
          (refine mix_loud (by rfl) (by rfl) (fun K E hK => ?_); go_big_op)
          change Calls _ _ #[sumV ea, sumV X] _ _
          refine (refPreimage_calls ea X hea hX32 _).mono ?_; rintro e w9 ⟨rfl, hd'⟩
          obtain ⟨z1, rfl⟩ := more_ext z0 hd'
          refine hK _ _ ⟨_, rfl⟩ ?_; clear hK K E hd'
          repeat (first | (refine mix_quiet (by rfl) (by rfl) (fun K hK => ?_); go_big_quiet_op; refine hK _ ?_; clear hK K) | (refine mix_skip (by rfl) ?_; simp only [Act.put, List.setIfInBounds_toArray, List.set_cons_zero, List.set_cons_succ]))
          refine mix_nil ?_
          have eg := grow_ext z1
          generalize grow w5 z1 = w6 at *
          replace hXB := Blk.below hXB eg (Blk.lt hXB)
          replace hYB := Blk.below hYB eg (Blk.lt hYB)
          replace hmb := range_ext hmb eg hblb
          replace hblb := Nat.lt_of_lt_of_le hblb eg.size
          replace hE5 := hE5.trans eg
          replace hE15 := hE15.trans eg
          clear eg hma hbla
          go_upto_region 15 with fail
          refine region_mix0 (by kernel_rfl) (by kernel_rfl) (fun z2 => ?_)
          iterate 3 (first | (refine mix_quiet (by rfl) (by rfl) (fun K hK => ?_); go_big_quiet_op; refine hK _ ?_; clear hK K) | (refine mix_skip (by rfl) ?_; simp only [Act.put, List.setIfInBounds_toArray, List.set_cons_zero, List.set_cons_succ]))
          refine mix_mid (by rfl) (by rfl) 28 (.tmp 66) rfl bb (ob + i * 32) (by rfl) _ _ hmb hblb Tryz.underlying28 rfl (size32l _ heb) ?_
          simp only [Act.put, List.setIfInBounds_toArray, List.set_cons_zero, List.set_cons_succ]
          refine mix_row (by rfl) (by rfl) 28 (.tmp 16) rfl gy (by rfl) _ _ _ hYB Tryz.underlying28 rfl (size32.trans (by simp [hY32])) ?_
          simp only [Act.put, List.setIfInBounds_toArray, List.set_cons_zero, List.set_cons_succ]
          (refine mix_loud (by rfl) (by rfl) (fun K E hK => ?_); go_big_op)
          change Calls _ _ #[sumV eb, sumV Y] _ _
          refine (refPreimage_calls eb Y heb hY32 _).mono ?_; rintro e w9 ⟨rfl, hd'⟩
          obtain ⟨z3, rfl⟩ := more_ext z2 hd'
          refine hK _ _ ⟨_, rfl⟩ ?_; clear hK K E hd'
          repeat (first | (refine mix_quiet (by rfl) (by rfl) (fun K hK => ?_); go_big_quiet_op; refine hK _ ?_; clear hK K) | (refine mix_skip (by rfl) ?_; simp only [Act.put, List.setIfInBounds_toArray, List.set_cons_zero, List.set_cons_succ]))
          refine mix_nil ?_
          have eg := grow_ext z3
          generalize grow w6 z3 = w7 at *
          replace hE5 := hE5.trans eg
          replace hE15 := hE15.trans eg
          clear eg hmb hblb hXB hYB
          go_wp2_with fail
          go_roundw
          case rel => exact ⟨i + 1, preB ea X, preB eb Y, by omega, by go_num, rfl, rfl, by rw [preB_len _ _ hea hX32]; omega, by rw [preB_len _ _ heb hY32]; omega, Hnx.out, hE15⟩
          case measure => simp [intOf]; omega
      · obtain rfl : i = T.length := by omega
        have j1 : ((T.length : Int) == (T.length : Int)) = true := by simp
        have hm := Hm.out
        rw [List.drop_length] at hm
        unfold metB at hm
        rw [show decide (x ≠ y ∧ shaOf x = shaOf y) = false by rw [decide_eq_false_iff_not]; exact Hno.out] at hm
        have HM := Lib.hid hm
        clear hm Hm
        go_wp2_with fail
        go_ret
        exact ⟨by rw [← HM.out]; rfl, hE5⟩
    · have n1 : (x != y) = true := by simp [hxy]
      have n2 : (x == y) = false := by simp [hxy]
      have heq := fun w : World => eq_sum X Y hX32 hY32 w
      by_cases hXY : X = Y
      · have hd : decide (X = Y) = true := by simp [hXY]
        have hr : res = true := by
          rw [← Hm.out]
          have hdd : decide (x ≠ y ∧ shaOf x = shaOf y) = true := by rw [decide_eq_true_iff]; exact ⟨hxy, by rw [← HX.out, ← HY.out, hXY]⟩
          unfold metB
          split <;> simp [hdd]
        have HR := Lib.hid hr
        clear hxy hXY hr Hm
        go_wp2_with (refine stop_load 28 (.tmp 15) rfl ?_)
        refine ⟨?_⟩
        refine list_want (by rfl) (fun K hK => ?_)
        refine wp_load_row 28 (.tmp 15) rfl gx (by rfl) 28 _ (0, 0) _ hXB Tryz.underlying28 rfl (size32.trans (by simp [hX32])) ?_
        refine hK _ _ ?_; clear hK K
        simp only [Act.put, List.setIfInBounds_toArray, List.set_cons_zero, List.set_cons_succ]
        go_wp2_with (refine stop_load 28 (.tmp 16) rfl ?_)
        refine ⟨?_⟩
        refine list_want (by rfl) (fun K hK => ?_)
        refine wp_load_row 28 (.tmp 16) rfl gy (by rfl) 28 _ (0, 0) _ hYB Tryz.underlying28 rfl (size32.trans (by simp [hY32])) ?_
        refine hK _ _ ?_; clear hK K
        simp only [Act.put, List.setIfInBounds_toArray, List.set_cons_zero, List.set_cons_succ]
        go_wp2_with fail
        go_ret
        exact ⟨by rw [HR.out]; rfl, hE5⟩
      · have hd : decide (X = Y) = false := by simp [hXY]
        have Hno : Hid (¬ (x ≠ y ∧ shaOf x = shaOf y)) := Lib.hid (fun h => hXY (by rw [HX.out, HY.out]; exact h.2))
        clear hxy hXY
        go_wp2_with (refine stop_load 28 (.tmp 15) rfl ?_)
        refine ⟨?_⟩
        refine list_want (by rfl) (fun K hK => ?_)
        refine wp_load_row 28 (.tmp 15) rfl gx (by rfl) 28 _ (0, 0) _ hXB Tryz.underlying28 rfl (size32.trans (by simp [hX32])) ?_
        refine hK _ _ ?_; clear hK K
        simp only [Act.put, List.setIfInBounds_toArray, List.set_cons_zero, List.set_cons_succ]
        go_wp2_with (refine stop_load 28 (.tmp 16) rfl ?_)
        refine ⟨?_⟩
        refine list_want (by rfl) (fun K hK => ?_)
        refine wp_load_row 28 (.tmp 16) rfl gy (by rfl) 28 _ (0, 0) _ hYB Tryz.underlying28 rfl (size32.trans (by simp [hY32])) ?_
        refine hK _ _ ?_; clear hK K
        simp only [Act.put, List.setIfInBounds_toArray, List.set_cons_zero, List.set_cons_succ]
        by_cases hlt : i < T.length
        · have hia : i < a.length := by have := HLa.out; omega
          have hib : i < b.length := by have := HLb.out; omega
          have j1 : ((i : Int) == (T.length : Int)) = false := by rw [beq_eq_false_iff_ne]; omega
          have j2 : (i : Int) < (T.length : Int) := by omega
          have j3 : (i : Int) < (a.length : Int) := by omega
          have j4 : (i : Int) < (b.length : Int) := by omega
          obtain ⟨bT, oT, rfl, hbT, hcT⟩ := (hrdT.below hX1 (Nat.le_refl _)) (map_ne Value.bool hlt)
          have cT0 := hcT i (.bool T[i]) (by simp [hlt])
          have cT1 : w5.cell? ⟨bT, oT + i, none⟩ = some (.bool T[i]) := by
            have hb2 : bT < wo.heap.size := Nat.lt_of_lt_of_le hbT hX1.size
            exact (World.cell?_of_block (hE45.block bT hb2)).trans cT0
          have hAoa : ∃ b off, A = some ⟨b, off, none⟩ := by
            rcases hAa with ⟨_, hl0, _⟩ | h
            · rw [hl0] at hia; simp at hia
            · exact h
          have hAob : ∃ b off, B = some ⟨b, off, none⟩ := by
            rcases hAb with ⟨_, hl0, _⟩ | h
            · rw [hl0] at hib; simp at hib
            · exact h
          obtain ⟨ba, oa, rfl⟩ := hAoa
          obtain ⟨bb, ob, rfl⟩ := hAob
          obtain ⟨hbla0, hma⟩ := rds_at (hra.below hE5 (Nat.le_refl _)) ha hia
          obtain ⟨hblb0, hmb⟩ := rds_at (hrb.below hE5 (Nat.le_refl _)) hb hib
          have hbla := Nat.lt_of_lt_of_le hbla0 hE5.size
          have hblb := Nat.lt_of_lt_of_le hblb0 hE5.size
          have hea := ha.get i hia
          have heb := hb.get i hib
          have hdr : T.drop i = T[i] :: T.drop (i + 1) := (List.getElem_cons_drop hlt).symm
          have hda : a.drop i = a[i] :: a.drop (i + 1) := (List.getElem_cons_drop hia).symm
          have hdb : b.drop i = b[i] :: b.drop (i + 1) := (List.getElem_cons_drop hib).symm
          have hm := Hm.out
          rw [hdr, hda, hdb] at hm
          unfold metB at hm
          rw [show decide (x ≠ y ∧ shaOf x = shaOf y) = false by rw [decide_eq_false_iff_not]; exact Hno.out, Bool.false_or, ← HX.out, ← HY.out] at hm
          generalize a[i] = ea at *
          generalize b[i] = eb at *
          clear hdr hda hdb hcT cT0 hbT hbla0 hblb0
          cases hti : T[i]
          · rw [hti] at hm cT1
            have Hnx : Hid (metB (T.drop (i + 1)) (a.drop (i + 1)) (b.drop (i + 1)) (preB X ea) (preB Y eb) = res) := Lib.hid hm
            clear hm hti Hm
            go_upto_region 16 with fail
            refine region_mix0 (by kernel_rfl) (by kernel_rfl) (fun z0 => ?_)
            refine mix_row (by rfl) (by rfl) 28 (.tmp 15) rfl gx (by rfl) _ _ _ hXB Tryz.underlying28 rfl (size32.trans (by simp [hX32])) ?_
            simp only [Act.put, List.setIfInBounds_toArray, List.set_cons_zero, List.set_cons_succ]
            iterate 3 (first | (refine mix_quiet (by rfl) (by rfl) (fun K hK => ?_); go_big_quiet_op; refine hK _ ?_; clear hK K) | (refine mix_skip (by rfl) ?_; simp only [Act.put, List.setIfInBounds_toArray, List.set_cons_zero, List.set_cons_succ]))
            refine mix_mid (by rfl) (by rfl) 28 (.tmp 73) rfl ba (oa + i * 32) (by rfl) _ _ hma hbla Tryz.underlying28 rfl (size32l _ hea) ?_
            simp only [Act.put, List.setIfInBounds_toArray, List.set_cons_zero, List.set_cons_succ]
            (refine mix_loud (by rfl) (by rfl) (fun K E hK => ?_); go_big_op)
            change Calls _ _ #[sumV X, sumV ea] _ _
            refine (refPreimage_calls X ea hX32 hea _).mono ?_; rintro e w9 ⟨rfl, hd'⟩
            obtain ⟨z1, rfl⟩ := more_ext z0 hd'
            refine hK _ _ ⟨_, rfl⟩ ?_; clear hK K E hd'
            repeat (first | (refine mix_quiet (by rfl) (by rfl) (fun K hK => ?_); go_big_quiet_op; refine hK _ ?_; clear hK K) | (refine mix_skip (by rfl) ?_; simp only [Act.put, List.setIfInBounds_toArray, List.set_cons_zero, List.set_cons_succ]))
            refine mix_nil ?_
            have eg := grow_ext z1
            generalize grow w5 z1 = w6 at *
            replace hXB := Blk.below hXB eg (Blk.lt hXB)
            replace hYB := Blk.below hYB eg (Blk.lt hYB)
            replace hmb := range_ext hmb eg hblb
            replace hblb := Nat.lt_of_lt_of_le hblb eg.size
            replace hE5 := hE5.trans eg
            replace hE15 := hE15.trans eg
            clear eg hma hbla
            go_upto_region 17 with fail
            refine region_mix0 (by kernel_rfl) (by kernel_rfl) (fun z2 => ?_)
            refine mix_row (by rfl) (by rfl) 28 (.tmp 16) rfl gy (by rfl) _ _ _ hYB Tryz.underlying28 rfl (size32.trans (by simp [hY32])) ?_
            simp only [Act.put, List.setIfInBounds_toArray, List.set_cons_zero, List.set_cons_succ]
            iterate 3 (first | (refine mix_quiet (by rfl) (by rfl) (fun K hK => ?_); go_big_quiet_op; refine hK _ ?_; clear hK K) | (refine mix_skip (by rfl) ?_; simp only [Act.put, List.setIfInBounds_toArray, List.set_cons_zero, List.set_cons_succ]))
            refine mix_mid (by rfl) (by rfl) 28 (.tmp 79) rfl bb (ob + i * 32) (by rfl) _ _ hmb hblb Tryz.underlying28 rfl (size32l _ heb) ?_
            simp only [Act.put, List.setIfInBounds_toArray, List.set_cons_zero, List.set_cons_succ]
            (refine mix_loud (by rfl) (by rfl) (fun K E hK => ?_); go_big_op)
            change Calls _ _ #[sumV Y, sumV eb] _ _
            refine (refPreimage_calls Y eb hY32 heb _).mono ?_; rintro e w9 ⟨rfl, hd'⟩
            obtain ⟨z3, rfl⟩ := more_ext z2 hd'
            refine hK _ _ ⟨_, rfl⟩ ?_; clear hK K E hd'
            repeat (first | (refine mix_quiet (by rfl) (by rfl) (fun K hK => ?_); go_big_quiet_op; refine hK _ ?_; clear hK K) | (refine mix_skip (by rfl) ?_; simp only [Act.put, List.setIfInBounds_toArray, List.set_cons_zero, List.set_cons_succ]))
            refine mix_nil ?_
            have eg := grow_ext z3
            generalize grow w6 z3 = w7 at *
            replace hE5 := hE5.trans eg
            replace hE15 := hE15.trans eg
            clear eg hmb hblb hXB hYB
            go_wp2_with fail
            go_roundw
            case rel => exact ⟨i + 1, preB X ea, preB Y eb, by omega, by go_num, rfl, rfl, by rw [preB_len _ _ hX32 hea]; omega, by rw [preB_len _ _ hY32 heb]; omega, Hnx.out, hE15⟩
            case measure => simp [intOf]; omega
          · rw [hti] at hm cT1
            have Hnx : Hid (metB (T.drop (i + 1)) (a.drop (i + 1)) (b.drop (i + 1)) (preB ea X) (preB eb Y) = res) := Lib.hid hm
            clear hm hti Hm
            go_upto_region 14 with fail
            refine region_mix0 (by kernel_rfl) (by kernel_rfl) (fun z0 => ?_)
            iterate 3 (first | (refine mix_quiet (by rfl) (by rfl) (fun K hK => ?_); go_big_quiet_op; refine hK _ ?_; clear hK K) | (refine mix_skip (by rfl) ?_; simp only [Act.put, List.setIfInBounds_toArray, List.set_cons_zero, List.set_cons_succ]))
            refine mix_mid (by rfl) (by rfl) 28 (.tmp 60) rfl ba (oa + i * 32) (by rfl) _ _ hma hbla Tryz.underlying28 rfl (size32l _ hea) ?_
            simp only [Act.put, List.setIfInBounds_toArray, List.set_cons_zero, List.set_cons_succ]
            refine mix_row (by rfl) (by rfl) 28 (.tmp 15) rfl gx (by rfl) _ _ _ hXB Tryz.underlying28 rfl (size32.trans (by simp [hX32])) ?_
            simp only [Act.put, List.setIfInBounds_toArray, List.set_cons_zero, List.set_cons_succ]
            (refine mix_loud (by rfl) (by rfl) (fun K E hK => ?_); go_big_op)
            change Calls _ _ #[sumV ea, sumV X] _ _
            refine (refPreimage_calls ea X hea hX32 _).mono ?_; rintro e w9 ⟨rfl, hd'⟩
            obtain ⟨z1, rfl⟩ := more_ext z0 hd'
            refine hK _ _ ⟨_, rfl⟩ ?_; clear hK K E hd'
            repeat (first | (refine mix_quiet (by rfl) (by rfl) (fun K hK => ?_); go_big_quiet_op; refine hK _ ?_; clear hK K) | (refine mix_skip (by rfl) ?_; simp only [Act.put, List.setIfInBounds_toArray, List.set_cons_zero, List.set_cons_succ]))
            refine mix_nil ?_
            have eg := grow_ext z1
            generalize grow w5 z1 = w6 at *
            replace hXB := Blk.below hXB eg (Blk.lt hXB)
            replace hYB := Blk.below hYB eg (Blk.lt hYB)
            replace hmb := range_ext hmb eg hblb
            replace hblb := Nat.lt_of_lt_of_le hblb eg.size
            replace hE5 := hE5.trans eg
            replace hE15 := hE15.trans eg
            clear eg hma hbla
            go_upto_region 15 with fail
            refine region_mix0 (by kernel_rfl) (by kernel_rfl) (fun z2 => ?_)
            iterate 3 (first | (refine mix_quiet (by rfl) (by rfl) (fun K hK => ?_); go_big_quiet_op; refine hK _ ?_; clear hK K) | (refine mix_skip (by rfl) ?_; simp only [Act.put, List.setIfInBounds_toArray, List.set_cons_zero, List.set_cons_succ]))
            refine mix_mid (by rfl) (by rfl) 28 (.tmp 66) rfl bb (ob + i * 32) (by rfl) _ _ hmb hblb Tryz.underlying28 rfl (size32l _ heb) ?_
            simp only [Act.put, List.setIfInBounds_toArray, List.set_cons_zero, List.set_cons_succ]
            refine mix_row (by rfl) (by rfl) 28 (.tmp 16) rfl gy (by rfl) _ _ _ hYB Tryz.underlying28 rfl (size32.trans (by simp [hY32])) ?_
            simp only [Act.put, List.setIfInBounds_toArray, List.set_cons_zero, List.set_cons_succ]
            (refine mix_loud (by rfl) (by rfl) (fun K E hK => ?_); go_big_op)
            change Calls _ _ #[sumV eb, sumV Y] _ _
            refine (refPreimage_calls eb Y heb hY32 _).mono ?_; rintro e w9 ⟨rfl, hd'⟩
            obtain ⟨z3, rfl⟩ := more_ext z2 hd'
            refine hK _ _ ⟨_, rfl⟩ ?_; clear hK K E hd'
            repeat (first | (refine mix_quiet (by rfl) (by rfl) (fun K hK => ?_); go_big_quiet_op; refine hK _ ?_; clear hK K) | (refine mix_skip (by rfl) ?_; simp only [Act.put, List.setIfInBounds_toArray, List.set_cons_zero, List.set_cons_succ]))
            refine mix_nil ?_
            have eg := grow_ext z3
            generalize grow w6 z3 = w7 at *
            replace hE5 := hE5.trans eg
            replace hE15 := hE15.trans eg
            clear eg hmb hblb hXB hYB
            go_wp2_with fail
            go_roundw
            case rel => exact ⟨i + 1, preB ea X, preB eb Y, by omega, by go_num, rfl, rfl, by rw [preB_len _ _ hea hX32]; omega, by rw [preB_len _ _ heb hY32]; omega, Hnx.out, hE15⟩
            case measure => simp [intOf]; omega
        · obtain rfl : i = T.length := by omega
          have j1 : ((T.length : Int) == (T.length : Int)) = true := by simp
          have hm := Hm.out
          rw [List.drop_length] at hm
          unfold metB at hm
          rw [show decide (x ≠ y ∧ shaOf x = shaOf y) = false by rw [decide_eq_false_iff_not]; exact Hno.out] at hm
          have HM := Lib.hid hm
          clear hm Hm
          go_wp2_with fail
          go_ret
          exact ⟨by rw [← HM.out]; rfl, hE5⟩

end Go.Proofs.YtcgnjdkennkheaaGreatDoor

namespace Go.Proofs.YtcgnjdkennkheaaGreatDoor
open Go.ChangeShapes Go.WideShapes Go.ChangeAt Go.RowKit
open Seal (Fz Hd St Ct)

theorem fold_right {root leaf : List UInt8} {m n : Int} {l : List (List UInt8)} (h : rightB root leaf m n l = true) : (Way.turnsI m n).length = l.length ∧ Way.foldW nodeB leaf (Way.turnsI m n) l = root := by
  unfold rightB at h
  rw [Bool.and_eq_true, decide_eq_true_eq] at h
  obtain ⟨h1, h2⟩ := h
  unfold foldP at h1 h2
  split at h1
  · rename_i hl
    rw [if_pos hl] at h2
    have := Way.turnsI_length m n (by rw [hl]; omega)
    exact ⟨by omega, h2⟩
  · cases h1
theorem right_parts {key : List UInt8} {r : Rc} {c : Ct} (h : rightCB key r c = true) : r.check = 0 ∧ c.fz.may ∧ c.fz.win = r.win ∧ shardB r.idx (leafB r.outB) c = true ∧ superB c = true := by
  unfold rightCB leafRightB baseB at h
  simp only [Bool.and_eq_true, decide_eq_true_eq] at h
  exact ⟨h.1, h.2.1.1.1.1, h.2.1.1.1.2, h.2.1.1.2, h.2.1.2⟩
/-- Two cites with one head, one place and one count, right of unlike records at one index, lead to a collision. -/
theorem one_plain (key : List UInt8) (r p : Rc) (c d : Ct) (hc : rightCB key r c = true) (hd : rightCB key p d = true) (oc : c.ok) (od : d.ok) (hh : d.hd = c.hd) (hpl : d.place = c.place) (hct : d.fz.cnt = c.fz.cnt) (hi : p.idx = r.idx) (hne : p ≠ r) :
    (Way.turnsI c.place c.hd.size).length = c.super.length ∧ (Way.turnsI c.place c.hd.size).length = d.super.length ∧ (Way.turnsI r.idx c.fz.cnt).length = c.path.length ∧ (Way.turnsI r.idx c.fz.cnt).length = d.path.length ∧
    (metB (Way.turnsI c.place c.hd.size) c.super d.super (0 :: c.fz.outB) (0 :: d.fz.outB) || metB (Way.turnsI r.idx c.fz.cnt) c.path d.path (0 :: r.outB) (0 :: p.outB)) = true := by
  obtain ⟨c1, c2, c3, c4, c5⟩ := right_parts hc
  obtain ⟨d1, d2, d3, d4, d5⟩ := right_parts hd
  obtain ⟨e1, f1⟩ := fold_right (show rightB c.hd.root (leafB c.fz.outB) c.place c.hd.size c.super = true from c5)
  have d5' : rightB d.hd.root (leafB d.fz.outB) d.place d.hd.size d.super = true := d5
  rw [hh, hpl] at d5'
  obtain ⟨e2, f2⟩ := fold_right d5'
  obtain ⟨e3, f3⟩ := fold_right (show rightB c.fz.root (leafB r.outB) r.idx c.fz.cnt c.path = true from c4)
  have d4' : rightB d.fz.root (leafB p.outB) p.idx d.fz.cnt d.path = true := d4
  rw [hi, hct] at d4'
  obtain ⟨e4, f4⟩ := fold_right d4'
  refine ⟨e1, e2, e3, e4, ?_⟩
  by_cases hf : c.fz.outB = d.fz.outB
  · have hff : c.fz = d.fz := by
      rw [(Seal.Fz.out_ok c.fz c2).1, (Seal.Fz.out_ok d.fz d2).1] at hf
      exact Seal.Fz.bytes_one c.fz d.fz c2 d2 oc.1 od.1 hf
    have hro : r.outB ≠ p.outB := fun e => by
      have b1 : r.outB = r.bytes := if_pos c1
      have b2 : p.outB = p.bytes := if_pos d1
      rw [b1, b2] at e
      exact hne (Rc.bytes_one r p c1 d1 e).symm
    rw [Bool.or_eq_true]
    right
    refine met_yes _ _ _ _ _ e3 e4 oc.2.2.2.1 od.2.2.2.1 ?_ (fun e => hro (by injection e))
    exact f3.trans ((congrArg Fz.root hff).trans f4.symm)
  · rw [Bool.or_eq_true]
    left
    exact met_yes _ _ _ _ _ e1 e2 oc.2.2.2.2 od.2.2.2.2 (f1.trans f2.symm) (fun e => hf (by injection e))
instance : DecidableEq Rc := fun a b => decidable_of_iff (a.win = b.win ∧ a.idx = b.idx ∧ a.time = b.time ∧ a.pay = b.pay) ⟨fun h => by cases a; cases b; simp_all, fun h => by subst h; exact ⟨rfl, rfl, rfl, rfl⟩⟩
theorem guard_rc : Tryz.prog.eqGuardType Tryz.prog.depth 36 = false := by kernel_rfl
section
variable {w : World} {g : Nat} {f : Fz} {p q : Value} {pl : Int} {h : Hd}
theorem CiteAt.setWin (c : CiteAt w g f p pl q h) (n : Int) : CiteAt (w.setCell ⟨g, 0, none⟩ (.int .i64 n)) g ⟨n, f.cnt, f.root⟩ p pl q h := by
  have := Blk.mid (w := w) (g := g) (t := 34) (pre := []) (old := [.int .i64 f.win]) (post := .int .i64 f.cnt :: (hcells f.root ++ (p :: .int .i64 pl :: q :: h.cells))) (by simpa [CiteAt, citeC, Seal.Fz.cells] using c) [.int .i64 n] 0 rfl rfl
  simpa [CiteAt, citeC, Seal.Fz.cells, World.setCells] using this
theorem CiteAt.setCnt (c : CiteAt w g f p pl q h) (n : Int) : CiteAt (w.setCell ⟨g, 1, none⟩ (.int .i64 n)) g ⟨f.win, n, f.root⟩ p pl q h := by
  have := Blk.mid (w := w) (g := g) (t := 34) (pre := [.int .i64 f.win]) (old := [.int .i64 f.cnt]) (post := hcells f.root ++ (p :: .int .i64 pl :: q :: h.cells)) (by simpa [CiteAt, citeC, Seal.Fz.cells] using c) [.int .i64 n] 1 rfl rfl
  simpa [CiteAt, citeC, Seal.Fz.cells, World.setCells] using this
/-- A cite with a record beside it, in a block. -/
def RawAt (w : World) (g : Nat) (c : Ct) (P Q : Value) (r : Rc) : Prop := Blk w g 55 (citeC c.fz P c.place Q c.hd ++ r.cells).toArray
theorem RawAt.cite {c : Ct} {P Q : Value} {r : Rc} (k : RawAt w g c P Q r) : w.rangeAt g 0 (citeC c.fz P c.place Q c.hd) := Blk.range (pre := []) (mid := citeC c.fz P c.place Q c.hd) (post := r.cells) k 0 rfl
theorem RawAt.rec_ {c : Ct} {P Q : Value} {r : Rc} (k : RawAt w g c P Q r) (h1 : c.fz.root.length = 32) (h2 : c.hd.root.length = 32) (h3 : c.hd.mac.length = 32) : w.rangeAt g 103 r.cells := by
  have := Blk.range (w := w) (g := g) (t := 55) (pre := citeC c.fz P c.place Q c.hd) (mid := r.cells) (post := []) (by rw [List.append_nil]; exact k) 103 (citeC_length h1 h2 h3).symm
  exact this
theorem RawAt.ext {w' : World} {c : Ct} {P Q : Value} {r : Rc} (k : RawAt w g c P Q r) (e : Ext w w') : RawAt w' g c P Q r := Blk.below k e (Blk.lt k)
end
section
variable {H : Type} {enc : TypeId × Value → H} {W : World} {base : Nat} {v : Value}
theorem tr_ct {cs : List Value} (h : Tr enc W 34 cs) : ∃ (c : Ct) (P Q : Value), cs = citeC c.fz P c.place Q c.hd ∧ c.ok ∧ SlS W W.heap.size P c.path ∧ SlS W W.heap.size Q c.super := by
  have hk : Tryz.prog.cellsOf 34 = 103 := by kernel_rfl
  have hki : Tryz.prog.cellsOf 3 = 1 := by kernel_rfl
  have hkf : Tryz.prog.cellsOf 30 = 34 := by kernel_rfl
  have hkh : Tryz.prog.cellsOf 32 = 66 := by kernel_rfl
  have hks : Tryz.prog.cellsOf 23 = 1 := by kernel_rfl
  obtain ⟨hl, hf⟩ := tr_struct Tryz.underlying34 h
  rw [hk] at hl
  have h0 : Tr enc W 30 ((cs.drop 0).take (Tryz.prog.cellsOf 30)) := hf 0 _ rfl
  have h1 : Tr enc W 23 ((cs.drop 34).take (Tryz.prog.cellsOf 23)) := hf 1 _ rfl
  have h2 : Tr enc W 3 ((cs.drop 35).take (Tryz.prog.cellsOf 3)) := hf 2 _ rfl
  have h3 : Tr enc W 23 ((cs.drop 36).take (Tryz.prog.cellsOf 23)) := hf 3 _ rfl
  have h4 : Tr enc W 32 ((cs.drop 37).take (Tryz.prog.cellsOf 32)) := hf 4 _ rfl
  rw [hkf] at h0
  rw [hks] at h1 h3
  rw [hki] at h2
  rw [hkh] at h4
  have l1 : ((cs.drop 34).take 1).length = 1 := by simp; omega
  have l3 : ((cs.drop 36).take 1).length = 1 := by simp; omega
  obtain ⟨P, hP⟩ := List.length_eq_one_iff.1 l1
  obtain ⟨Q, hQ⟩ := List.length_eq_one_iff.1 l3
  obtain ⟨f, e0, w0⟩ := tr_fz h0
  obtain ⟨i2, e2, w2⟩ := tr_i64 h2
  obtain ⟨hd, e4, w4⟩ := tr_hd h4
  have q : cs = (cs.drop 0).take 34 ++ ((cs.drop 34).take 1 ++ ((cs.drop 35).take 1 ++ ((cs.drop 36).take 1 ++ (cs.drop 37).take 66))) := by
    rw [List.drop_zero, ← List.append_assoc, ← List.take_add, ← List.append_assoc, ← List.take_add, ← List.append_assoc, ← List.take_add, ← List.take_add, List.take_of_length_le (by omega)]
  rw [hP] at h1 q
  rw [hQ] at h3 q
  rw [e0, e2, e4] at q
  obtain ⟨a, hSa, hAa⟩ := tr_sls h1
  obtain ⟨b, hSb, hAb⟩ := tr_sls h3
  exact ⟨⟨f, a, i2, b, hd⟩, P, Q, by rw [q]; simp [citeC], ⟨w0.2.2, w4.2.2.1, w4.2.2.2, hAa, hAb⟩, hSa, hSb⟩
theorem op_ct (hv : Value.okWide Tryz.prog W .any base 34 v) (h : Tr enc W 34 v.cells.toList) : ∃ (c : Ct) (P Q : Value), v = citeV c.fz P c.place Q c.hd ∧ c.ok ∧ SlS W W.heap.size P c.path ∧ SlS W W.heap.size Q c.super := by
  obtain ⟨c, P, Q, hr, hq⟩ := tr_ct h
  obtain ⟨cs, rfl⟩ := okWide_agg Tryz.underlying34 hv
  exact ⟨c, P, Q, agg_is hr, hq⟩
theorem op_raw (hv : Value.okWide Tryz.prog W .any base 55 v) (h : Tr enc W 55 v.cells.toList) : ∃ (c : Ct) (P Q : Value) (r : Rc), v = .agg (citeC c.fz P c.place Q c.hd ++ r.cells).toArray ∧ c.ok ∧ SlS W W.heap.size P c.path ∧ SlS W W.heap.size Q c.super ∧ (r.fit ∧ r.pay.length ≤ 9223372036854775807) := by
  have hk : Tryz.prog.cellsOf 55 = 107 := by kernel_rfl
  have hkc : Tryz.prog.cellsOf 34 = 103 := by kernel_rfl
  have hkr : Tryz.prog.cellsOf 36 = 4 := by kernel_rfl
  obtain ⟨cs, rfl⟩ := okWide_agg Tryz.underlying55 hv
  obtain ⟨hl, hf⟩ := tr_struct Tryz.underlying55 h
  rw [hk] at hl
  obtain ⟨cs⟩ := cs
  simp only [Value.cells] at hl hf
  have h0 : Tr enc W 34 ((cs.drop 0).take (Tryz.prog.cellsOf 34)) := hf 0 _ rfl
  have h1 : Tr enc W 36 ((cs.drop 103).take (Tryz.prog.cellsOf 36)) := hf 1 _ rfl
  rw [hkc] at h0
  rw [hkr] at h1
  obtain ⟨c, P, Q, e0, w0, w1, w2⟩ := tr_ct h0
  obtain ⟨r, e1, w3⟩ := tr_rec h1
  have q : cs = (cs.drop 0).take 103 ++ (cs.drop 103).take 4 := by
    rw [List.drop_zero, ← List.take_add, List.take_of_length_le (by omega)]
  rw [e0, e1] at q
  exact ⟨c, P, Q, r, by rw [q], w0, w1, w2, w3⟩
end

theorem eq_rc (a b : Rc) (w : World) : (Op.equalIn 10000 36 a.v b.v).run Tryz.prog w = .ok (decide (a = b)) w := by
  have p0 : ∀ (f : Rc) w, (part 3 f.cells.toArray 0).run Tryz.prog w = .ok (.int .i64 f.win) w := fun f w => part_i [] [.int .i64 f.idx, .int .i64 f.time, strV f.pay] _ 0 rfl w
  have p1 : ∀ (f : Rc) w, (part 3 f.cells.toArray 1).run Tryz.prog w = .ok (.int .i64 f.idx) w := fun f w => part_i [.int .i64 f.win] [.int .i64 f.time, strV f.pay] _ 1 rfl w
  have p2 : ∀ (f : Rc) w, (part 3 f.cells.toArray 2).run Tryz.prog w = .ok (.int .i64 f.time) w := fun f w => part_i [.int .i64 f.win, .int .i64 f.idx] [strV f.pay] _ 2 rfl w
  have p3 : ∀ (f : Rc) w, (part 9 f.cells.toArray 3).run Tryz.prog w = .ok (strV f.pay) w := fun f w => part_cell (fun w => by rw [Tryz.isAgg9]) [.int .i64 f.win, .int .i64 f.idx, .int .i64 f.time] [] _ 3 rfl w
  have qi : ∀ (x y : Int) w, (Op.equalIn 9999 3 (.int .i64 x) (.int .i64 y)).run Tryz.prog w = .ok (x == y) w := fun x y w => eq_intd 9998 x y w
  have qs : ∀ (x y : List UInt8) w, (Op.equalIn 9999 9 (strV x) (strV y)).run Tryz.prog w = .ok (decide (x = y)) w := fun x y w => by
    have := run_equalIn_string (P := Tryz.prog) w 9998 9 (bs x) (bs y) Tryz.underlying9
    unfold strV
    rw [this, bs_toList2, bs_toList2]
    by_cases h : x = y <;> simp [h]
  show (Op.equalIn 10000 36 (.agg a.cells.toArray) (.agg b.cells.toArray)).run Tryz.prog w = _
  rw [run_equalIn_struct w 9999 _ _ _ (by kernel_rfl) (by kernel_rfl)]
  unfold Program.fieldsOf
  rw [Tryz.underlying36]
  by_cases h1 : a.win = b.win
  · by_cases h2 : a.idx = b.idx
    · by_cases h3 : a.time = b.time
      · by_cases h4 : a.pay = b.pay
        · obtain rfl : a = b := by cases a; cases b; simp_all
          simp [Op.eqFields, Sem.run_bind, Sem.run_ite, p0, p1, p2, p3, qi, qs, Result.andThen_ok]
        · have : a ≠ b := fun e => h4 (by rw [e])
          simp [Op.eqFields, Sem.run_bind, Sem.run_ite, h1, h2, h3, h4, this, p0, p1, p2, p3, qi, qs, Result.andThen_ok]
      · have : a ≠ b := fun e => h3 (by rw [e])
        simp [Op.eqFields, Sem.run_bind, Sem.run_ite, h1, h2, h3, this, p0, p1, p2, qi, Result.andThen_ok]
    · have : a ≠ b := fun e => h2 (by rw [e])
      simp [Op.eqFields, Sem.run_bind, Sem.run_ite, h1, h2, this, p0, p1, qi, Result.andThen_ok]
  · have : a ≠ b := fun e => h1 (by rw [e])
    simp [Op.eqFields, Sem.run_bind, Sem.run_ite, h1, this, p0, qi, Result.andThen_ok]

end Go.Proofs.YtcgnjdkennkheaaGreatDoor

namespace Go.Proofs.YtcgnjdkennkheaaGreatDoor
open Go.ChangeShapes Go.WideShapes Go.ChangeAt Go.RowKit
open Seal (Fz Hd St Ct)
section
variable {H : Type} {enc : TypeId × Value → H} {W : World} {base : Nat} {v : Value}
theorem tr_turn {cs : List Value} (h : Tr enc W 53 cs) : ∃ f : Fz, cs = f.cells ∧ f.fit := by
  have hk : Tryz.prog.cellsOf 53 = 34 := by kernel_rfl
  have hki : Tryz.prog.cellsOf 3 = 1 := by kernel_rfl
  have hks : Tryz.prog.cellsOf 28 = 32 := by kernel_rfl
  obtain ⟨hl, hf⟩ := tr_struct Tryz.underlying53 h
  rw [hk] at hl
  have h0 : Tr enc W 3 ((cs.drop 0).take (Tryz.prog.cellsOf 3)) := hf 0 _ rfl
  have h1 : Tr enc W 3 ((cs.drop 1).take (Tryz.prog.cellsOf 3)) := hf 1 _ rfl
  have h2 : Tr enc W 28 ((cs.drop 2).take (Tryz.prog.cellsOf 28)) := hf 2 _ rfl
  rw [hki] at h0 h1
  rw [hks] at h2
  obtain ⟨i0, e0, w0⟩ := tr_i64 h0
  obtain ⟨i1, e1, w1⟩ := tr_i64 h1
  obtain ⟨s, e2, w2⟩ := tr_sum h2
  have q : cs = (cs.drop 0).take 1 ++ ((cs.drop 1).take 1 ++ (cs.drop 2).take 32) := by
    rw [List.drop_zero, ← List.append_assoc, ← List.take_add, ← List.take_add, List.take_of_length_le (by omega)]
  rw [e0, e1, e2] at q
  exact ⟨⟨i0, i1, s⟩, by rw [q]; simp [Seal.Fz.cells], w0, w1, w2⟩
theorem op_turn (hv : Value.okWide Tryz.prog W .any base 53 v) (h : Tr enc W 53 v.cells.toList) : ∃ f : Fz, v = f.v ∧ f.fit := by
  obtain ⟨f, hr, hq⟩ := tr_turn h
  obtain ⟨cs, rfl⟩ := okWide_agg Tryz.underlying53 hv
  exact ⟨f, agg_is hr, hq⟩
theorem tr_ct2 {cs : List Value} (h : Tr enc W 34 cs) : ∃ (c : Ct) (P Q : Value), cs = citeC c.fz P c.place Q c.hd ∧ (c.ok ∧ c.fz.cnt ≤ 9223372036854775807 ∧ c.hd.size ≤ 9223372036854775807) ∧ SlS W W.heap.size P c.path ∧ SlS W W.heap.size Q c.super := by
  have hk : Tryz.prog.cellsOf 34 = 103 := by kernel_rfl
  have hki : Tryz.prog.cellsOf 3 = 1 := by kernel_rfl
  have hkf : Tryz.prog.cellsOf 30 = 34 := by kernel_rfl
  have hkh : Tryz.prog.cellsOf 32 = 66 := by kernel_rfl
  have hks : Tryz.prog.cellsOf 23 = 1 := by kernel_rfl
  obtain ⟨hl, hf⟩ := tr_struct Tryz.underlying34 h
  rw [hk] at hl
  have h0 : Tr enc W 30 ((cs.drop 0).take (Tryz.prog.cellsOf 30)) := hf 0 _ rfl
  have h1 : Tr enc W 23 ((cs.drop 34).take (Tryz.prog.cellsOf 23)) := hf 1 _ rfl
  have h2 : Tr enc W 3 ((cs.drop 35).take (Tryz.prog.cellsOf 3)) := hf 2 _ rfl
  have h3 : Tr enc W 23 ((cs.drop 36).take (Tryz.prog.cellsOf 23)) := hf 3 _ rfl
  have h4 : Tr enc W 32 ((cs.drop 37).take (Tryz.prog.cellsOf 32)) := hf 4 _ rfl
  rw [hkf] at h0
  rw [hks] at h1 h3
  rw [hki] at h2
  rw [hkh] at h4
  have l1 : ((cs.drop 34).take 1).length = 1 := by simp; omega
  have l3 : ((cs.drop 36).take 1).length = 1 := by simp; omega
  obtain ⟨P, hP⟩ := List.length_eq_one_iff.1 l1
  obtain ⟨Q, hQ⟩ := List.length_eq_one_iff.1 l3
  obtain ⟨f, e0, w0⟩ := tr_fz h0
  obtain ⟨i2, e2, w2⟩ := tr_i64 h2
  obtain ⟨hd, e4, w4⟩ := tr_hd h4
  have q : cs = (cs.drop 0).take 34 ++ ((cs.drop 34).take 1 ++ ((cs.drop 35).take 1 ++ ((cs.drop 36).take 1 ++ (cs.drop 37).take 66))) := by
    rw [List.drop_zero, ← List.append_assoc, ← List.take_add, ← List.append_assoc, ← List.take_add, ← List.append_assoc, ← List.take_add, ← List.take_add, List.take_of_length_le (by omega)]
  rw [hP] at h1 q
  rw [hQ] at h3 q
  rw [e0, e2, e4] at q
  obtain ⟨a, hSa, hAa⟩ := tr_sls h1
  obtain ⟨b, hSb, hAb⟩ := tr_sls h3
  exact ⟨⟨f, a, i2, b, hd⟩, P, Q, by rw [q]; simp [citeC], ⟨⟨w0.2.2, w4.2.2.1, w4.2.2.2, hAa, hAb⟩, w0.2.1.2, w4.1.2⟩, hSa, hSb⟩
theorem op_raw2 (hv : Value.okWide Tryz.prog W .any base 55 v) (h : Tr enc W 55 v.cells.toList) : ∃ (c : Ct) (P Q : Value) (r : Rc), v = .agg (citeC c.fz P c.place Q c.hd ++ r.cells).toArray ∧ (c.ok ∧ c.fz.cnt ≤ 9223372036854775807 ∧ c.hd.size ≤ 9223372036854775807) ∧ SlS W W.heap.size P c.path ∧ SlS W W.heap.size Q c.super ∧ (r.fit ∧ r.pay.length ≤ 9223372036854775807) := by
  have hk : Tryz.prog.cellsOf 55 = 107 := by kernel_rfl
  have hkc : Tryz.prog.cellsOf 34 = 103 := by kernel_rfl
  have hkr : Tryz.prog.cellsOf 36 = 4 := by kernel_rfl
  obtain ⟨cs, rfl⟩ := okWide_agg Tryz.underlying55 hv
  obtain ⟨hl, hf⟩ := tr_struct Tryz.underlying55 h
  rw [hk] at hl
  obtain ⟨cs⟩ := cs
  simp only [Value.cells] at hl hf
  have h0 : Tr enc W 34 ((cs.drop 0).take (Tryz.prog.cellsOf 34)) := hf 0 _ rfl
  have h1 : Tr enc W 36 ((cs.drop 103).take (Tryz.prog.cellsOf 36)) := hf 1 _ rfl
  rw [hkc] at h0
  rw [hkr] at h1
  obtain ⟨c, P, Q, e0, w0, w1, w2⟩ := tr_ct2 h0
  obtain ⟨r, e1, w3⟩ := tr_rec h1
  have q : cs = (cs.drop 0).take 103 ++ (cs.drop 103).take 4 := by
    rw [List.drop_zero, ← List.take_add, List.take_of_length_le (by omega)]
  rw [e0, e1] at q
  exact ⟨c, P, Q, r, by rw [q], w0, w1, w2, w3⟩
end
theorem own_store0 {w : World} {B : Nat} {v : Value} {l : List (List UInt8)} {x : List UInt8} (h : OwnS w B v l) (hl : l ≠ []) (hal : AllH l) (hx : x.length = 32) :
    ∃ g cap, v = .slice (some ⟨g, 0, none⟩) l.length cap ∧ v.ownBlock = some g ∧ B ≤ g ∧ g < w.heap.size ∧ w.there g 0 32 ∧ OwnS (w.setCells g 0 (hcells x)) B v (x :: l.tail) := by
  obtain ⟨A, z, rfl, -, h3, h4, o⟩ := h
  obtain ⟨hlen, ⟨hv, h0⟩ | ⟨g, cap, cur, hv, hB, hb, hn, hc, hsz, htk⟩⟩ := o hl
  · exact absurd (List.eq_nil_of_length_eq_zero h0) hl
  · cases l with
    | nil => exact absurd rfl hl
    | cons a tl =>
      have ha : a.length = 32 := hal a (by simp)
      have hfl : flatS (a :: tl) = hcells a ++ flatS tl := rfl
      have hca : (hcells a).length = 32 := by simp [hcells, ha]
      have hcx : (hcells x).length = 32 := by simp [hcells, hx]
      have hcur : cur = ([] ++ (hcells a ++ (flatS tl ++ cur.toList.drop ((a :: tl).length * 32)))).toArray := by
        rw [List.nil_append, ← List.append_assoc, ← hfl, ← htk, List.take_append_drop]
      have k : Blk w g 28 cur := hb
      have hlt := Blk.lt k
      generalize hrr : cur.toList.drop ((a :: tl).length * 32) = rest at *
      rw [hcur] at k hsz
      have hth : w.there g 0 32 := Blk.there k 0 32 (by rw [List.nil_append, List.length_append, hca]; omega)
      have k2 := Blk.mid k (hcells x) 0 rfl (by rw [hca, hcx])
      injection hv with e1 e2 e3
      subst e1 e3
      refine ⟨g, z, rfl, rfl, hB, hlt, hth, some ⟨g, 0, none⟩, z, rfl, .inr ⟨g, 0, rfl⟩, h3, h4, fun _ => ⟨?_, .inr ⟨g, z, _, rfl, hB, k2, hn, hc, ?_, ?_⟩⟩⟩
      · rw [show flatS (x :: (a :: tl).tail) = hcells x ++ flatS tl from rfl, List.length_append, hcx]
        rw [hfl, List.length_append, hca] at hlen
        exact hlen
      · rw [List.size_toArray] at hsz ⊢
        simp only [List.nil_append, List.length_append, hca, hcx] at hsz ⊢
        exact hsz
      · rw [hfl, List.length_append, hca] at hlen
        simp only [List.length_cons] at hlen ⊢
        rw [show flatS (x :: (a :: tl).tail) = hcells x ++ flatS tl from rfl]
        simp only [List.nil_append]
        rw [← List.append_assoc]
        refine List.take_left' ?_
        rw [List.length_append, hcx]
        exact hlen
section
variable {w : World} {g : Nat} {f : Fz} {p q : Value} {pl : Int} {h : Hd}
theorem CiteAt.setClock (c : CiteAt w g f p pl q h) (hr : f.root.length = 32) (h1 : h.root.length = 32) (n : Int) : CiteAt (w.setCell ⟨g, 70, none⟩ (.int .i64 n)) g f p pl q ⟨h.size, h.root, n, h.mac⟩ := by
  have := Blk.mid (w := w) (g := g) (t := 34) (pre := f.cells ++ [p, .int .i64 pl, q, .int .i64 h.size] ++ hcells h.root) (old := [.int .i64 h.clock]) (post := hcells h.mac) (by simpa [CiteAt, citeC, Seal.Hd.cells] using c) [.int .i64 n] 70 (by simp [fz_cells hr, hcells, h1]) rfl
  simpa [CiteAt, citeC, Seal.Hd.cells, World.setCells] using this
theorem CiteAt.clock (c : CiteAt w g f p pl q h) (hr : f.root.length = 32) (h1 : h.root.length = 32) : w.cell? ⟨g, 70, none⟩ = some (.int .i64 h.clock) := by
  have := Blk.range (w := w) (g := g) (t := 34) (pre := f.cells ++ [p, .int .i64 pl, q, .int .i64 h.size] ++ hcells h.root) (mid := [.int .i64 h.clock]) (post := hcells h.mac) (by simpa [CiteAt, citeC, Seal.Hd.cells] using c) 70 (by simp [fz_cells hr, hcells, h1])
  exact this 0 _ rfl
end
theorem OwnS.updN {w w' : World} {k B : Nat} {v : Value} {l : List (List UInt8)} (h : OwnS w B v l) (hU : Upd k w w') (hne : l ≠ [] → v.ownBlock ≠ some k) : OwnS w' B v l := by
  obtain ⟨A, cap, h1, h2, h3, h4, h5⟩ := h
  refine ⟨A, cap, h1, h2, h3, h4, fun hl => World.ownsRow.kept (h5 hl) hU ?_⟩
  have := hne hl
  cases hb : v.ownBlock with
  | none => exact Or.inl rfl
  | some j => exact Or.inr fun e => this (by rw [hb, e])
theorem OwnS.nil (w : World) (B : Nat) : OwnS w B (.slice none 0 0) [] := ⟨none, 0, rfl, .inl ⟨.inl rfl, rfl, rfl⟩, Nat.le_refl _, by omega, fun h => absurd rfl h⟩
theorem wd_signed (wd : Wd) (h : wd.recs ≠ []) : rightCB (wd.key.take 40) wd.rec_ wd.cite = true := by
  have h1 := (hd_right (wd.key.take 40) (wd.fl.length : Int) 99 (rootS (leavesF wd.fl))).1
  have hle := wd.fl_le
  have hlt := wd.place_lt
  have h2 : Seal.Hd.may (Seal.Hd.sign (wd.key.take 40) (wd.fl.length : Int) (rootS (leavesF wd.fl)) 99) := by
    unfold Seal.Hd.may Seal.Hd.sign
    simp only
    omega
  rw [wd.right h]
  show Seal.Hd.rightB (wd.key.take 40) (Seal.Hd.sign (wd.key.take 40) (wd.fl.length : Int) (rootS (leavesF wd.fl)) 99) = true
  rw [h1]
  simpa using h2
theorem cited_any (wd : Wd) (hpay : ∀ r ∈ wd.recs, r.pay.length ≤ 9223372036854775807) (hkey : wd.key.length ≤ 9223372036854775807) (hah : AllH wd.ahead) (hbh : AllH wd.behind) (A : Option Addr) (ca : Nat) (q s : Value) (hca : wd.recs.length ≤ ca) (hca2 : ca ≤ 9223372036854775807) (w : World) (hr : Rd w w.heap.size A (flatR wd.recs)) (hq : SlS w w.heap.size q wd.ahead) (hs : SlS w w.heap.size s wd.behind) :
    Calls Tryz.prog 8 #[.agg #[.slice A wd.recs.length ca, q, s, .int .i64 wd.which, .string (bs wd.key)]] w fun e w' => ∃ (c : Ct) (P Q : Value) (r : Rc) (b : Bool), e = .returned (.tuple #[citeV c.fz P c.place Q c.hd, r.v, .bool b]) ∧ fitC c ∧ r.pay.length ≤ 60 ∧ OwnS w' w.heap.size P c.path ∧ OwnS w' w.heap.size Q c.super ∧ (c.path ≠ [] → c.super ≠ [] → P.ownBlock ≠ Q.ownBlock) ∧ (b = true → rightCB (wd.key.take 40) r c = true ∧ r.win = 20) ∧ Ext w w' := by
  by_cases hne : wd.recs = []
  · rw [hne]
    refine (cited_none A ca q s wd.which wd.key w).mono ?_
    rintro e w' ⟨rfl, he⟩
    exact ⟨⟨Seal.zF, [], 0, [], Seal.zH⟩, .slice none 0 0, .slice none 0 0, ⟨0, 0, 0, []⟩, false, rfl, ⟨zC_ok, by decide, by decide, by decide, by decide⟩, by decide, OwnS.nil _ _, OwnS.nil _ _, fun h _ => absurd rfl h, fun h => (Bool.noConfusion h), he⟩
  · refine (cited_more2 wd hpay hkey hah hbh A ca q s hca hca2 w hr hq hs hne).mono ?_
    rintro e w' ⟨P, Q, rfl, hP, hQ, hap, he⟩
    exact ⟨wd.cite, P, Q, wd.rec_, true, rfl, wd.cite_fit, wd.rec_pay hne, hP, hQ, hap, fun _ => ⟨wd_signed wd hne, by rw [wd.rec_is hne]⟩, he⟩

end Go.Proofs.YtcgnjdkennkheaaGreatDoor
