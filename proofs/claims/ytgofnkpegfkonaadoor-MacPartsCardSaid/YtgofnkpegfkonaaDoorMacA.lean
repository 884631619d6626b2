/-
  The chapter's examples of sums by a key, reckoned.
-/
import Derived.Test.YtgofnkpegfkonaaDoorMac3
import Derived.Test.YtgofnkpegfkonaaDoorMacR
import Derived.Test.YtgofnkpegfkonaaDoorEqA
import Derived.Test.YtgofnkpegfkonaaDoorOpS
set_option linter.unusedVariables false
set_option linter.unusedSimpArgs false
namespace Go.Proofs.YtgofnkpegfkonaaDoor
open Go.RowKit
def macHex1 : List UInt8 := [102, 55, 98, 99, 56, 51, 102, 52, 51, 48, 53, 51, 56, 52, 50, 52, 98, 49, 51, 50, 57, 56, 101, 54, 97, 97, 54, 102, 98, 49, 52, 51, 101, 102, 52, 100, 53, 57, 97, 49, 52, 57, 52, 54, 49, 55, 53, 57, 57, 55, 52, 55, 57, 100, 98, 99, 50, 100, 49, 97, 51, 99, 100, 56]
def macHex2 : List UInt8 := [98, 54, 49, 51, 54, 55, 57, 97, 48, 56, 49, 52, 100, 57, 101, 99, 55, 55, 50, 102, 57, 53, 100, 55, 55, 56, 99, 51, 53, 102, 99, 53, 102, 102, 49, 54, 57, 55, 99, 52, 57, 51, 55, 49, 53, 54, 53, 51, 99, 54, 99, 55, 49, 50, 49, 52, 52, 50, 57, 50, 99, 53, 97, 100]
def fox1 : List UInt8 := [84, 104, 101, 32, 113, 117, 105, 99, 107, 32, 98, 114, 111, 119, 110, 32, 102, 111, 120, 32]
def fox2 : List UInt8 := [106, 117, 109, 112, 115, 32, 111, 118, 101, 114, 32, 116, 104, 101, 32, 108, 97, 122, 121, 32, 100, 111, 103]
def keyT : List UInt8 := [107, 101, 121]
theorem hex_mac1 : hexOf (macOf keyT (joinB [fox1, fox2])) = macHex1 := by decide +kernel
theorem hex_mac2 : hexOf (macOf [] (joinB [])) = macHex2 := by decide +kernel
theorem cMac1 : (ByteArray.mk #[102, 55, 98, 99, 56, 51, 102, 52, 51, 48, 53, 51, 56, 52, 50, 52, 98, 49, 51, 50, 57, 56, 101, 54, 97, 97, 54, 102, 98, 49, 52, 51, 101, 102, 52, 100, 53, 57, 97, 49, 52, 57, 52, 54, 49, 55, 53, 57, 57, 55, 52, 55, 57, 100, 98, 99, 50, 100, 49, 97, 51, 99, 100, 56]) = bs macHex1 := rfl
theorem cMac2 : (ByteArray.mk #[98, 54, 49, 51, 54, 55, 57, 97, 48, 56, 49, 52, 100, 57, 101, 99, 55, 55, 50, 102, 57, 53, 100, 55, 55, 56, 99, 51, 53, 102, 99, 53, 102, 102, 49, 54, 57, 55, 99, 52, 57, 51, 55, 49, 53, 54, 53, 51, 99, 54, 99, 55, 49, 50, 49, 52, 52, 50, 57, 50, 99, 53, 97, 100]) = bs macHex2 := rfl
theorem cFox1 : (ByteArray.mk #[84, 104, 101, 32, 113, 117, 105, 99, 107, 32, 98, 114, 111, 119, 110, 32, 102, 111, 120, 32]) = bs fox1 := rfl
theorem cFox2 : (ByteArray.mk #[106, 117, 109, 112, 115, 32, 111, 118, 101, 114, 32, 116, 104, 101, 32, 108, 97, 122, 121, 32, 100, 111, 103]) = bs fox2 := rfl
theorem cKeyT : (ByteArray.mk #[107, 101, 121]) = bs keyT := rfl
theorem cNilT : (ByteArray.mk #[]) = bs [] := rfl
attribute [local go_sem] bs_size bs_toList2 bs_append bs_extract_end bs_extract_begin bs_get wrap64_b grow_cell grow_frozen cMac1 cMac2 cFox1 cFox2 cKeyT

set_option maxRecDepth 100000 in
theorem awake03_calls (w : World) (KW : Keys w) : Calls Tryd.prog 33 #[] w fun e w' => e = .returned (.bool true) ∧ Ext w w' := by
  go_enter Tryd.func33, Tryd.ntmps33
  go_wp2_with fail
  change Calls _ _ #[.string (bs keyT), _] (w.alloc (.cells #[.string (bs fox1), .string (bs fox2)] 9)) _
  have hE0 := (Ext.refl w).alloc (.cells #[.string (bs fox1), .string (bs fox2)] 9)
  have hRd : Rd (w.alloc (.cells #[.string (bs fox1), .string (bs fox2)] 9)) (w.alloc (.cells #[.string (bs fox1), .string (bs fox2)] 9)).heap.size (some ⟨w.heap.size, 0, none⟩) ([fox1, fox2].map strV) := Blk.rd (Blk.new w _ _)
  refine (MOf_calls keyT (by decide) [fox1, fox2] _ 2 _ (KW.ext hE0) hRd (by decide) (by decide)).mono ?_; rintro e w1 ⟨rfl, e1⟩
  go_wp2_with fail
  refine (Hex_calls (macOf keyT (joinB [fox1, fox2])) (macOf_length _ _) _).mono ?_; rintro e w2 ⟨he, e2⟩
  rw [hex_mac1] at he
  subst he
  go_wp2_with fail
  change Calls _ _ #[.string (bs []), .slice none ([] : List (List UInt8)).length 0] _ _
  refine (MOf_calls [] (by decide) [] none 0 _ (KW.ext ((hE0.trans e1).trans e2)) Rd.nil (by decide) (by decide)).mono ?_; rintro e w3 ⟨rfl, e3⟩
  go_wp2_with fail
  refine (Hex_calls (macOf [] (joinB [])) (macOf_length _ _) _).mono ?_; rintro e w4 ⟨he, e4⟩
  rw [hex_mac2] at he
  subst he
  go_wp2_with fail
  go_ret
  exact ⟨rfl, ((hE0.trans e1).trans e2).trans (e3.trans e4)⟩

theorem short03_calls (s : List UInt8) (n : Nat) (w : World) (hs : s.length ≤ 9223372036854775807) (hn : n ≤ 9223372036854775807) : Calls Tryd.prog 34 #[.string (bs s), .int .i64 (n : Int)] w fun e w' => e = .returned (.string (bs (s.take n))) ∧ w = w' := by
  by_cases h : n < s.length
  · have h1 : (n : Int) < (s.length : Int) := by omega
    go_enter Tryd.func34, Tryd.ntmps34
    go_wp2
    go_ret
    exact ⟨rfl, rfl⟩
  · have h1 : ¬ (n : Int) < (s.length : Int) := by omega
    have ht : s.take n = s := List.take_of_length_le (by omega)
    have HT := Lib.hid ht; clear ht
    go_enter Tryd.func34, Tryd.ntmps34
    go_wp2
    go_ret
    exact ⟨by rw [HT.out]; rfl, rfl⟩

end Go.Proofs.YtgofnkpegfkonaaDoor
