/-
  The walks of the helpers of scriniumlaw01, and of the document's writers (scriniumref01).
-/
import Derived.Test.YtcgnjdkennkheaaGreatDoorOct2
import Derived.Test.YtcgnjdkennkheaaGreatDoorOctL
set_option linter.unusedVariables false
set_option maxRecDepth 100000
set_option linter.unusedSimpArgs false
namespace Go.Proofs.YtcgnjdkennkheaaGreatDoor
open Go.RowKit
attribute [local go_sem] bs_size bs_toList2 bs_append bs_extract_end bs_extract_begin bs_get wrap64_b

def few01 (l : List (List UInt8)) : List (List UInt8) := (l.take 12).map (·.take 100)
def few01k (l : List (List UInt8)) (k : Nat) : List Value := ((l.take k).map (·.take 100)).map strV
theorem few01_succ (l : List (List UInt8)) (k : Nat) (h : k < l.length) : few01k l (k + 1) = few01k l k ++ [strV (l[k].take 100)] := by
  unfold few01k
  rw [List.take_succ_eq_append_getElem h]
  simp only [List.map_append, List.map_cons, List.map_nil]
theorem few01_all (l : List (List UInt8)) (k : Nat) (h : k = l.length ∨ k = 12) (h' : k ≤ l.length) (h12 : k ≤ 12) : few01k l k = (few01 l).map strV ∧ (few01 l).length = k := by
  have hf : (l.take k).map (·.take 100) = few01 l := by
    unfold few01
    congr 1
    rcases h with rfl | rfl
    · rw [List.take_of_length_le (Nat.le_refl _), List.take_of_length_le (by omega)]
    · rfl
  exact ⟨by unfold few01k; rw [hf], by rw [← hf]; simp; omega⟩
theorem few01_length (l : List (List UInt8)) : (few01 l).length ≤ 12 := by simp [few01]; omega
theorem few01_each (l : List (List UInt8)) : ∀ s ∈ few01 l, s.length ≤ 100 := by
  intro s hs
  simp only [few01, List.mem_map] at hs
  obtain ⟨t, _, rfl⟩ := hs
  simp; omega

theorem few01_list (l : List (List UInt8)) : (Oct.list (few01 l)).length ≤ 1317 := by
  have h1 := Oct.list_length_le 100 (few01 l) (few01_each l)
  have h2 := few01_length l
  have h3 := Nat.mul_le_mul_right (9 + 100) h2
  omega

/-! ### The document's writers -/
/-- what the document's Put has written: the digits to the base 256 -/
theorem be_need_zero : Oct.be (Oct.need 0) 0 = [] := rfl

set_option maxHeartbeats 1000000 in
theorem refPut_calls (n : Int) (w : World) (h0 : 0 ≤ n) (h1 : n ≤ 18446744073709551615) :
    Calls Tryz.prog 53 #[.int .u64 n] w fun e w' => e = .returned (.string (bs (Oct.put n.toNat))) ∧ Ext w w' := by
  obtain ⟨n, rfl⟩ := Int.eq_ofNat_of_zero_le h0
  rw [Int.toNat_natCast]
  go_enter Tryz.func53, Tryz.ntmps53
  go_wp2
  have hn64 : n < 18446744073709551616 := by omega
  have hnl := Oct.need_le n
  go_loopw [0, 3] (fun a s wr => ∃ k : Nat, k ≤ Oct.need n ∧ a = .int .u64 ((n / 256 ^ k : Nat) : Int) ∧ s = .string (bs (Oct.be k n)) ∧ Ext w wr) (fun a _ _ => (intOf a).toNat)
  case atStart => exact ⟨0, Nat.zero_le _, by simp, rfl, Ext.refl _⟩
  case round =>
    obtain ⟨k, hk, rfl, rfl, hE⟩ := hrel
    have hle : n / 256 ^ k ≤ n := Nat.div_le_self _ _
    have HG := Lib.hid (Oct.need_go n k hn64)
    have HE := Lib.hid (Oct.need_end n k hn64)
    have HB := Lib.hid (Oct.be_step n k)
    have HD := Lib.hid (Oct.div_step n k)
    have hbl := Oct.be_length k n
    have HBL := Lib.hid hbl
    have hlk : (Oct.be k n).length ≤ 8 := by omega
    clear hbl
    generalize hm : n / 256 ^ k = m at *
    have HM := Lib.hid hm
    clear hm
    by_cases hz : 0 < m
    · have hcv := conv_one wr ((m : Int) % 256) (by omega) (by omega)
      go_wp2
      go_roundw
      case rel =>
        refine ⟨k + 1, HG.out hz, ?_, ?_, hE.alloc _⟩
        · rw [← HD.out]; rfl
        · rw [← HB.out]; rfl
      case measure => simp [intOf]; omega
    · have hkn := HE.out hz hk
      have hcv := conv_one wr ((Oct.be k n).length : Int) (by omega) (by omega)
      have hfin : UInt8.ofNat (Oct.be k n).length :: Oct.be k n = Oct.put n := by rw [HBL.out, hkn]; rfl
      have HF := Lib.hid hfin
      clear hfin hkn
      go_wp2
      go_ret
      exact ⟨ret_str HF.out, hE.alloc _⟩

set_option maxHeartbeats 400000 in
theorem refText_calls (s : List UInt8) (w : World) (hs : s.length ≤ 140737488355328) :
    Calls Tryz.prog 58 #[.string (bs s)] w fun e w' => e = .returned (.string (bs (Oct.text s))) ∧ Ext w w' := by
  have hp := Oct.put_length s.length
  have hn := Oct.need_le s.length
  have HP := Lib.hid hp
  have hpl : (Oct.put s.length).length ≤ 9 := by omega
  clear hp hn
  go_enter Tryz.func58, Tryz.ntmps58
  go_wp2_with fail
  refine (refPut_calls _ _ (by omega) (by omega)).mono ?_; rintro e w1 ⟨rfl, h1⟩
  rw [Int.toNat_natCast]
  go_wp2_with fail
  go_ret
  exact ⟨rfl, h1⟩

end Go.Proofs.YtcgnjdkennkheaaGreatDoor
