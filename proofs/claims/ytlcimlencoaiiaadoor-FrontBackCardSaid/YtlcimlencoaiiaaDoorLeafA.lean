/-
  The chapter's examples of leaves, reckoned; at most 20 hashes.
-/
import Derived.Test.YtlcimlencoaiiaaDoorBuildS
set_option linter.unusedVariables false
set_option maxRecDepth 100000
set_option linter.unusedSimpArgs false
namespace Go.Proofs.YtlcimlencoaiiaaDoor
open Go.RowKit
def hexE : List UInt8 := [101, 51, 98, 48, 99, 52, 52, 50, 57, 56, 102, 99, 49, 99, 49, 52, 57, 97, 102, 98, 102, 52, 99, 56, 57, 57, 54, 102, 98, 57, 50, 52, 50, 55, 97, 101, 52, 49, 101, 52, 54, 52, 57, 98, 57, 51, 52, 99, 97, 52, 57, 53, 57, 57, 49, 98, 55, 56, 53, 50, 98, 56, 53, 53]
def hexL : List UInt8 := [54, 101, 51, 52, 48, 98, 57, 99, 102, 102, 98, 51, 55, 97, 57, 56, 57, 99, 97, 53, 52, 52, 101, 54, 98, 98, 55, 56, 48, 97, 50, 99, 55, 56, 57, 48, 49, 100, 51, 102, 98, 51, 51, 55, 51, 56, 55, 54, 56, 53, 49, 49, 97, 51, 48, 54, 49, 55, 97, 102, 97, 48, 49, 100]
def hexR : List UInt8 := [51, 54, 54, 52, 50, 101, 55, 51, 99, 50, 53, 52, 48, 97, 98, 49, 50, 49, 101, 51, 97, 54, 98, 102, 57, 53, 52, 53, 98, 48, 97, 50, 52, 57, 56, 50, 99, 100, 56, 51, 48, 101, 98, 49, 51, 100, 51, 99, 100, 49, 57, 100, 101, 51, 99, 101, 54, 99, 48, 50, 49, 101, 99, 49]
def abcT : List (List UInt8) := [leafB [97], leafB [98], leafB [99]]
theorem hex_e : hexOf emptyB = hexE := by decide +kernel
theorem hex_l : hexOf (leafB []) = hexL := by decide +kernel
theorem root_abc : rootS abcT = nodeB (nodeB (leafB [97]) (leafB [98])) (leafB [99]) := rfl
theorem hex_r : hexOf (rootS abcT) = hexR := by decide +kernel
theorem cHE : (ByteArray.mk #[101, 51, 98, 48, 99, 52, 52, 50, 57, 56, 102, 99, 49, 99, 49, 52, 57, 97, 102, 98, 102, 52, 99, 56, 57, 57, 54, 102, 98, 57, 50, 52, 50, 55, 97, 101, 52, 49, 101, 52, 54, 52, 57, 98, 57, 51, 52, 99, 97, 52, 57, 53, 57, 57, 49, 98, 55, 56, 53, 50, 98, 56, 53, 53]) = bs hexE := rfl
theorem cHL : (ByteArray.mk #[54, 101, 51, 52, 48, 98, 57, 99, 102, 102, 98, 51, 55, 97, 57, 56, 57, 99, 97, 53, 52, 52, 101, 54, 98, 98, 55, 56, 48, 97, 50, 99, 55, 56, 57, 48, 49, 100, 51, 102, 98, 51, 51, 55, 51, 56, 55, 54, 56, 53, 49, 49, 97, 51, 48, 54, 49, 55, 97, 102, 97, 48, 49, 100]) = bs hexL := rfl
theorem cHR : (ByteArray.mk #[51, 54, 54, 52, 50, 101, 55, 51, 99, 50, 53, 52, 48, 97, 98, 49, 50, 49, 101, 51, 97, 54, 98, 102, 57, 53, 52, 53, 98, 48, 97, 50, 52, 57, 56, 50, 99, 100, 56, 51, 48, 101, 98, 49, 51, 100, 51, 99, 100, 49, 57, 100, 101, 51, 99, 101, 54, 99, 48, 50, 49, 101, 99, 49]) = bs hexR := rfl
theorem abcT_all : AllH abcT := AllH.cons (leafB_length _) (AllH.cons (leafB_length _) (AllH.cons (leafB_length _) AllH.nil))
attribute [local go_sem] bs_size bs_toList2 bs_append bs_extract_end bs_extract_begin bs_get wrap64_b grow_cell grow_frozen cHE cHL cHR

theorem few09_calls (v : Value) (l : List (List UInt8)) (hl : AllH l) (w : World) (h : SlS w w.heap.size v l) :
    Calls Tryd.prog 24 #[v] w fun e w' => ∃ v', e = .returned v' ∧ SlS w w.heap.size v' (l.take 20) ∧ w = w' := by
  have h0 := h
  obtain ⟨A, cap, rfl, hA0, hc, hc63, hr⟩ := h
  by_cases hlt : 20 < l.length
  · have hI : (20 : Int) < (l.length : Int) := by omega
    rcases hA0 with ⟨_, hl1, _⟩ | ⟨b, off, rfl⟩
    · rw [hl1] at hlt; simp at hlt
    have hcI : (20 : Int) ≤ (cap : Int) := by omega
    have hcn : 20 ≤ cap := by omega
    go_enter Tryd.func24, Tryd.ntmps24
    go_wp2_with fail
    go_ret
    exact ⟨_, rfl, sls_take hl hc hc63 hr 20 (by omega), rfl⟩
  · have hI : ¬ (20 : Int) < (l.length : Int) := by omega
    go_enter Tryd.func24, Tryd.ntmps24
    go_wp2_with fail
    go_ret
    exact ⟨_, rfl, by rw [List.take_of_length_le (by omega)]; exact h0, rfl⟩

set_option maxHeartbeats 1000000 in
theorem awake09_calls (w : World) (KW : Keys w) : Calls Tryd.prog 17 #[] w fun e w' => e = .returned (.bool true) ∧ Ext w w' := by
  go_enter Tryd.func17, Tryd.ntmps17
  go_wp2_with fail
  change Calls _ _ #[.string (bs [97])] _ _
  refine (Leaf_calls [97] (by decide) _ KW).mono ?_; rintro e w1 ⟨rfl, e1⟩
  have ha := leafB_length [97]
  generalize hpa : leafB [97] = pa at *
  go_wp2_with fail
  change Calls _ _ #[.string (bs [98])] _ _
  refine (Leaf_calls [98] (by decide) _ (KW.ext e1)).mono ?_; rintro e w2 ⟨rfl, e2⟩
  have hb := leafB_length [98]
  generalize hpb : leafB [98] = pb at *
  go_wp2_with fail
  change Calls _ _ #[.string (bs [99])] _ _
  refine (Leaf_calls [99] (by decide) _ (KW.ext (e1.trans e2))).mono ?_; rintro e w3 ⟨rfl, e3⟩
  have hc := leafB_length [99]
  generalize hpc : leafB [99] = pc at *
  have Ha := Lib.hid hpa; have Hb := Lib.hid hpb; have Hc := Lib.hid hpc
  clear hpa hpb hpc
  have hE3 := (e1.trans e2).trans e3
  clear e1 e2 e3
  unfold sumV
  go_wp2_with (refine stop_dst 5 rfl ?_)
  refine ⟨?_⟩
  have hall : AllH [pa, pb, pc] := AllH.cons ha (AllH.cons hb (AllH.cons hc AllH.nil))
  refine wpList_buildSums rfl 3 _ rfl [pa, pb, pc] hall rfl (by decide) (by decide) (by rfl) ?_
  simp only [Act.put, List.setIfInBounds_toArray, List.set_cons_zero, List.set_cons_succ]
  have hS := sls_new w3 [pa, pb, pc] 3 rfl (by decide)
  have hE4 := hE3.alloc (.cells (flatS [pa, pb, pc]).toArray 23)
  have habc : [pa, pb, pc] = abcT := by rw [← Ha.out, ← Hb.out, ← Hc.out]; rfl
  rw [habc] at hS hE4 ⊢
  generalize w3.alloc (.cells (flatS abcT).toArray 23) = w4 at *
  go_wp2_with fail
  refine (Empty_calls _ (KW.ext hE4)).mono ?_; rintro e w5 ⟨rfl, e5⟩
  go_wp2_with fail
  refine (refHex_calls emptyB emptyB_length _).mono ?_; rw [hex_e]; rintro e w6 ⟨rfl, e6⟩
  go_wp2_with fail
  change Calls _ _ #[.string (bs [])] _ _
  refine (Leaf_calls [] (by decide) _ (KW.ext ((hE4.trans e5).trans e6))).mono ?_; rintro e w7 ⟨rfl, e7⟩
  go_wp2_with fail
  refine (refHex_calls (leafB []) (leafB_length _) _).mono ?_; rw [hex_l]; rintro e w8 ⟨rfl, e8⟩
  have hE8 := ((hE4.trans e5).trans e6).trans (e7.trans e8)
  have hS8 := hS.ext ((e5.trans e6).trans (e7.trans e8))
  clear hS hE4 e5 e6 e7 e8
  go_wp2_with fail
  refine (Root_calls _ abcT abcT_all (by decide) _ (KW.ext hE8) hS8).mono ?_; rintro e w9 ⟨rfl, e9⟩
  go_wp2_with fail
  refine (refHex_calls (rootS abcT) (rootS_length _ abcT_all) _).mono ?_; rw [hex_r]; rintro e w10 ⟨rfl, e10⟩
  go_wp2_with fail
  go_ret
  exact ⟨rfl, (hE8.trans e9).trans e10⟩

end Go.Proofs.YtlcimlencoaiiaaDoor
