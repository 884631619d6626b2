/-
  The chapter's examples: two hashes, reckoned.
-/
import Derived.Test.YtgofnkpegfkonaaDoorHex
set_option linter.unusedVariables false
set_option linter.unusedSimpArgs false
namespace Go.Proofs.YtgofnkpegfkonaaDoor
open Go.RowKit
def emptyHex : List UInt8 := [101, 51, 98, 48, 99, 52, 52, 50, 57, 56, 102, 99, 49, 99, 49, 52, 57, 97, 102, 98, 102, 52, 99, 56, 57, 57, 54, 102, 98, 57, 50, 52, 50, 55, 97, 101, 52, 49, 101, 52, 54, 52, 57, 98, 57, 51, 52, 99, 97, 52, 57, 53, 57, 57, 49, 98, 55, 56, 53, 50, 98, 56, 53, 53]
def abcHex : List UInt8 := [98, 97, 55, 56, 49, 54, 98, 102, 56, 102, 48, 49, 99, 102, 101, 97, 52, 49, 52, 49, 52, 48, 100, 101, 53, 100, 97, 101, 50, 50, 50, 51, 98, 48, 48, 51, 54, 49, 97, 51, 57, 54, 49, 55, 55, 97, 57, 99, 98, 52, 49, 48, 102, 102, 54, 49, 102, 50, 48, 48, 49, 53, 97, 100]
theorem hex_empty : hexOf (shaOf []) = emptyHex := by decide +kernel
theorem hex_abc : hexOf (shaOf [97, 98, 99]) = abcHex := by decide +kernel
theorem cEmpty : (ByteArray.mk #[101, 51, 98, 48, 99, 52, 52, 50, 57, 56, 102, 99, 49, 99, 49, 52, 57, 97, 102, 98, 102, 52, 99, 56, 57, 57, 54, 102, 98, 57, 50, 52, 50, 55, 97, 101, 52, 49, 101, 52, 54, 52, 57, 98, 57, 51, 52, 99, 97, 52, 57, 53, 57, 57, 49, 98, 55, 56, 53, 50, 98, 56, 53, 53]) = bs emptyHex := rfl
theorem cAbc : (ByteArray.mk #[98, 97, 55, 56, 49, 54, 98, 102, 56, 102, 48, 49, 99, 102, 101, 97, 52, 49, 52, 49, 52, 48, 100, 101, 53, 100, 97, 101, 50, 50, 50, 51, 98, 48, 48, 51, 54, 49, 97, 51, 57, 54, 49, 55, 55, 97, 57, 99, 98, 52, 49, 48, 102, 102, 54, 49, 102, 50, 48, 48, 49, 53, 97, 100]) = bs abcHex := rfl
attribute [local go_sem] bs_size bs_toList2 bs_append bs_extract_end bs_extract_begin bs_get wrap64_b grow_cell grow_frozen cEmpty cAbc

theorem awake_calls (w : World) (K : Keys w) : Calls Tryd.prog 15 #[] w fun e w' => e = .returned (.bool true) ∧ Ext w w' := by
  go_enter Tryd.func15, Tryd.ntmps15
  go_wp2_with fail
  refine (Of_calls [] none 0 _ K Rd.nil (by decide) (by decide)).mono ?_; rintro e w1 ⟨rfl, e1⟩
  go_wp2_with fail
  refine (Hex_calls (shaOf []) (shaOf_length _) _).mono ?_; rintro e w2 ⟨he, e2⟩
  rw [hex_empty] at he
  subst he
  go_wp2_with fail
  have K2 : Keys (w2.alloc (.cells #[.string ⟨#[97]⟩, .string ⟨#[98, 99]⟩] 9)) := K.ext ((e1.trans e2).alloc _)
  have hRd : Rd (w2.alloc (.cells #[.string ⟨#[97]⟩, .string ⟨#[98, 99]⟩] 9)) (w2.alloc (.cells #[.string ⟨#[97]⟩, .string ⟨#[98, 99]⟩] 9)).heap.size (some ⟨w2.heap.size, 0, none⟩) ([[97], [98, 99]].map strV) := Blk.rd (Blk.new w2 _ _)
  refine (Of_calls [[97], [98, 99]] _ 2 _ K2 hRd (by decide) (by decide)).mono ?_; rintro e w3 ⟨rfl, e3⟩
  go_wp2_with fail
  refine (Hex_calls (shaOf (joinB [[97], [98, 99]])) (shaOf_length _) _).mono ?_; rintro e w4 ⟨he, e4⟩
  rw [show joinB [[97], [98, 99]] = [97, 98, 99] from rfl, hex_abc] at he
  subst he
  go_wp2_with fail
  go_ret
  exact ⟨rfl, (((e1.trans e2).alloc _).trans e3).trans e4⟩

theorem short_calls (s : List UInt8) (n : Nat) (w : World) (hs : s.length ≤ 9223372036854775807) (hn : n ≤ 9223372036854775807) : Calls Tryd.prog 20 #[.string (bs s), .int .i64 (n : Int)] w fun e w' => e = .returned (.string (bs (s.take n))) ∧ w = w' := by
  by_cases h : n < s.length
  · have h1 : (n : Int) < (s.length : Int) := by omega
    go_enter Tryd.func20, Tryd.ntmps20
    go_wp2
    go_ret
    exact ⟨rfl, rfl⟩
  · have h1 : ¬ (n : Int) < (s.length : Int) := by omega
    have ht : s.take n = s := List.take_of_length_le (by omega)
    have HT := Lib.hid ht; clear ht
    go_enter Tryd.func20, Tryd.ntmps20
    go_wp2
    go_ret
    exact ⟨by rw [HT.out]; rfl, rfl⟩

end Go.Proofs.YtgofnkpegfkonaaDoor
