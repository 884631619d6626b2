/-
  The walks of mac.Pad, begun and New.
-/
import Derived.Test.YtcgnjdkennkheaaGreatDoorMacP
import Derived.Test.YtcgnjdkennkheaaGreatDoorShaC
import Derived.Test.YtcgnjdkennkheaaGreatDoorMix5
import Derived.Test.YtcgnjdkennkheaaGreatDoorHex
import Derived.Lib.ConvBytes
set_option linter.unusedVariables false
set_option maxRecDepth 100000
set_option linter.unusedSimpArgs false
namespace Go.Proofs.YtcgnjdkennkheaaGreatDoor
open Go.RowKit
attribute [local go_sem] bs_size bs_toList2 bs_append bs_extract_end bs_extract_begin bs_get wrap64_b grow_cell grow_frozen

/-- The bytes l lie at the head of block g, and may be written. -/
def Cs (w : World) (g : Nat) (l : List UInt8) : Prop := g < w.heap.size ∧ ∀ j, (h : j < l.length) → w.cell? ⟨g, j, none⟩ = some (byteV l[j]) ∧ w.frozen? ⟨g, j, none⟩ = false
theorem Cs.rd {w : World} {g : Nat} {l : List UInt8} (h : Cs w g l) : Rd w w.heap.size (some ⟨g, 0, none⟩) (l.map byteV) := fun _ => ⟨g, 0, rfl, h.1, fun j u hu => by
  rw [List.getElem?_map] at hu
  obtain ⟨c, hc, rfl⟩ := Option.map_eq_some_iff.1 hu
  obtain ⟨hlt, rfl⟩ := List.getElem?_eq_some_iff.1 hc
  rw [Nat.zero_add]
  exact (h.2 j hlt).1⟩
theorem Cs.set_ {w : World} {g : Nat} {l : List UInt8} (h : Cs w g l) (i : Nat) (hi : i < l.length) (c : UInt8) : Cs (w.setCell ⟨g, i, none⟩ (byteV c)) g (l.set i c) := by
  refine ⟨by simpa [World.setCell] using h.1, fun j hj => ?_⟩
  rw [List.length_set] at hj
  obtain ⟨h1, h2⟩ := h.2 j hj
  by_cases hji : i = j
  · subst hji
    obtain ⟨h3, _⟩ := h.2 i hi
    refine ⟨?_, by rw [World.frozen?_setCell]; exact h2⟩
    rw [List.getElem_set_self]
    exact World.cell?_setCell_same _ _ _ h3
  · refine ⟨?_, by rw [World.frozen?_setCell]; exact h2⟩
    rw [World.cell?_setCell_other _ _ _ _ (by simp [hji]), List.getElem_set_ne hji]
    exact h1
theorem Cs.ext {w w' : World} {g : Nat} {l : List UInt8} (h : Cs w g l) (e : Ext w w') : Cs w' g l :=
  ⟨Nat.lt_of_lt_of_le h.1 e.size, fun j hj => ⟨(e.cell (p := ⟨g, j, none⟩) h.1).trans (h.2 j hj).1, (e.frozen (p := ⟨g, j, none⟩) h.1).trans (h.2 j hj).2⟩⟩
theorem bytes_conv (w : World) (l : List UInt8) : ∃ cap w', (convert 9 87 (.string (bs l))).run Tryz.prog w = .ok (.slice (some ⟨w.heap.size, 0, none⟩) l.length cap) w' ∧ Cs w' w.heap.size l ∧ Ext w w' := by
  refine ⟨_, _, by rw [Lib.run_convert_string_bytes w 9 87 5 (bs l) Tryz.underlying9 Tryz.underlying87 Tryz.underlying5, bs_size], ⟨by rw [Lib.bytesWorld_size]; omega, fun j hj => ⟨?_, ?_⟩⟩, ?_⟩
  · rw [Lib.bytesWorld_cell w _ _ j (by rw [bs_size]; exact hj), bs_toList]
    simp [byteV, hj]
  · have hlt : j < (Lib.bytesCells w 5 (bs l)).size := by simp [Lib.bytesCells, bs]; omega
    unfold World.frozen?
    rw [Lib.bytesWorld_at_new]
    simp
    omega
  · exact ⟨rfl, rfl, rfl, by rw [Lib.bytesWorld_size]; omega, fun k hk => Lib.bytesWorld_at_old w _ _ k hk⟩

theorem RepZ_calls (n : Nat) (hn : n ≤ 1000000) (w : World) : Calls Tryz.prog 122 #[.string ⟨#[0]⟩, .int .i64 (n : Int)] w fun e w' => e = .returned (.string (bs (zerosB n))) ∧ Ext w w' := Rep_calls n hn w
theorem cZ1 : (ByteArray.mk #[0]) = bs [0] := rfl
set_option maxRecDepth 100000 in
set_option maxHeartbeats 1000000 in
theorem Pad_calls (key : List UInt8) (hk : key.length ≤ 4611686018427387904) (w : World) (KW : Keys w) :
    Calls Tryz.prog 129 #[.string (bs key)] w fun e w' => e = .returned (.string (bs (padB key))) ∧ Ext w w' := by
  by_cases h : 64 < key.length
  · have h1 : (64 : Int) < (key.length : Int) := by omega
    have hkl : padB key = shaOf key ++ zerosB 32 := by unfold padB; rw [keyB_long key h, shaOf_length]
    have hsl := shaOf_length key
    have Hkl := Lib.hid hkl; clear hkl
    go_enter Tryz.func129, Tryz.ntmps129
    go_wp2_with fail
    have hRd : Rd (w.alloc (.cells #[.string (bs key)] 9)) (w.alloc (.cells #[.string (bs key)] 9)).heap.size (some ⟨w.heap.size, 0, none⟩) ([key].map strV) := Blk.rd (Blk.new w _ _)
    have hj : joinB [key] = key := by simp [joinB]
    refine (Of_calls [key] _ 1 _ (KW.ext ((Ext.refl w).alloc _)) hRd (by simp) (by rw [hj]; omega)).mono ?_; rw [hj]; rintro e w1 ⟨rfl, e1⟩
    clear hRd hj
    replace e1 := ((Ext.refl w).alloc _).trans e1
    generalize shaOf key = d at *
    go_wp2_with fail
    refine (Bytes_calls d hsl _).mono ?_; rintro e w2 ⟨rfl, e2⟩
    have hs2 : (64 : Int) - (d.length : Int) = 32 := by omega
    have Hs2 := Lib.hid hsl; clear hsl
    go_wp2_with fail
    refine (RepZ_calls 32 (by omega) _).mono ?_; rintro e w3 ⟨rfl, e3⟩
    have hzl : (zerosB 32).length ≤ 64 := by simp [zerosB]
    have hdl : d.length ≤ 64 := by have := Hs2.out; omega
    go_wp2_with fail
    go_ret
    exact ⟨by rw [Hkl.out]; rfl, (e1.trans e2).trans e3⟩
  · have h1 : ¬ (64 : Int) < (key.length : Int) := by omega
    have hkl : padB key = key ++ zerosB (64 - key.length) := by unfold padB; rw [keyB_short key h]
    have Hkl := Lib.hid hkl; clear hkl
    go_enter Tryz.func129, Tryz.ntmps129
    go_wp2_with fail
    have hs2 : (64 : Int) - (key.length : Int) = ((64 - key.length : Nat) : Int) := by omega
    rw [hs2]
    refine (RepZ_calls (64 - key.length) (by omega) _).mono ?_; rintro e w3 ⟨rfl, e3⟩
    have hzl : (zerosB (64 - key.length)).length ≤ 64 := by simp [zerosB]
    have hdl : key.length ≤ 64 := by omega
    clear hs2
    go_wp2_with fail
    go_ret
    exact ⟨by rw [Hkl.out]; rfl, e3⟩

set_option maxRecDepth 100000 in
set_option maxHeartbeats 1000000 in
theorem with_calls (pad : List UInt8) (hp : pad.length = 64) (c : UInt8) (b : Nat) (w : World) (KW : Keys w) (hb : w.cell? ⟨b, 0, none⟩ = some (.string (bs pad))) :
    Calls Tryz.prog 130 #[.int .u8 c.toNat, .pointer (some ⟨b, 0, none⟩)] w fun e w' => ∃ g, e = .returned (.pointer (some ⟨g, 0, none⟩)) ∧ w.heap.size ≤ g ∧ HashAt w' g (xorB pad c) ∧ Ext w w' := by
  obtain ⟨cap, w1, hconv, hC, e1⟩ := bytes_conv w pad
  rw [hp] at hconv
  have Hp := Lib.hid hp
  have hbl : b < w.heap.size := World.block_lt_of_cell? w _ hb
  rw [← turnB_zero pad c] at hC
  have hpl : pad.length ≤ 64 := by omega
  clear hp
  go_enter Tryz.func130, Tryz.ntmps130
  go_wp2_with fail
  go_loopw [11] (fun v wr => ∃ i : Nat, i ≤ 64 ∧ v = .int .i64 (i : Int) ∧ Cs wr w.heap.size (turnB pad c i) ∧ Ext w wr) (fun v _ => 64 - (intOf v).toNat)
  case atStart => exact ⟨0, by omega, rfl, hC, e1⟩
  case round =>
    clear hC e1 hconv
    obtain ⟨i, hi, rfl, hC, hE⟩ := hrel
    have hgl := hC.1
    by_cases hlt : i < 64
    · have hit : (i : Int) < 64 := by omega
      have hip : i < pad.length := by rw [Hp.out]; exact hlt
      obtain ⟨hcell, hfr⟩ := hC.2 i (by rw [turnB_length]; exact hip)
      rw [turnB_get pad c i hip] at hcell
      unfold byteV at hcell
      have hs := turnB_succ pad c i hip
      have Hs := Lib.hid hs; clear hs
      generalize pad[i] = x at *
      go_wp2_with fail
      go_roundw
      case rel =>
        rw [byte_xor]
        exact ⟨i + 1, by omega, by go_num, by rw [Hs.out]; exact hC.set_ i (by rw [turnB_length]; exact hip) _, hE.setCell (by simp) _⟩
      case measure => simp [intOf]; omega
    · obtain rfl : i = 64 := by omega
      have ha := turnB_all pad c
      rw [Hp.out] at ha
      rw [ha] at hC
      have hz : (xorB pad c).length = 64 := by rw [xorB_length]; exact Hp.out
      clear ha
      obtain ⟨z, hzz⟩ : ∃ z, z = xorB pad c := ⟨_, rfl⟩
      rw [← hzz] at hC hz
      have Hzz := Lib.hid hzz; clear hzz
      go_wp2_with fail
      refine (New_calls _).mono ?_; rintro e w3 ⟨rfl, hN, e3⟩
      have hC3 := hC.ext e3
      have hE3 := hE.trans e3
      have hconv2 : (convert 87 9 (.slice (some ⟨w.heap.size, 0, none⟩) 64 cap)).run Tryz.prog w3 = .ok (.string (bs z)) w3 := conv_bytes w3 _ _ z 64 cap hz hC3.rd
      have hg0 : wr.heap.size ≠ 0 := by have := KW.lt0; omega
      clear hC e3
      go_wp2_with fail
      refine (Write_calls z [] wr.heap.size _ (KW.ext hE3) (.inr ⟨rfl, hN⟩) hg0 (by simp; omega)).mono ?_; rintro e w4 ⟨rfl, hH, hU⟩
      have hE4 := hE3.upd hU hE.size
      rw [List.nil_append] at hH
      go_wp2_with fail
      go_ret
      exact ⟨_, rfl, hE.size, by rw [← Hzz.out]; exact hH, hE4⟩

theorem with54 (pad : List UInt8) (hp : pad.length = 64) (b : Nat) (w : World) (KW : Keys w) (hb : w.cell? ⟨b, 0, none⟩ = some (.string (bs pad))) :
    Calls Tryz.prog 130 #[.int .u8 54, .pointer (some ⟨b, 0, none⟩)] w fun e w' => ∃ g, e = .returned (.pointer (some ⟨g, 0, none⟩)) ∧ w.heap.size ≤ g ∧ HashAt w' g (xorB pad 54) ∧ Ext w w' := with_calls pad hp 54 b w KW hb
theorem with92 (pad : List UInt8) (hp : pad.length = 64) (b : Nat) (w : World) (KW : Keys w) (hb : w.cell? ⟨b, 0, none⟩ = some (.string (bs pad))) :
    Calls Tryz.prog 130 #[.int .u8 92, .pointer (some ⟨b, 0, none⟩)] w fun e w' => ∃ g, e = .returned (.pointer (some ⟨g, 0, none⟩)) ∧ w.heap.size ≤ g ∧ HashAt w' g (xorB pad 92) ∧ Ext w w' := with_calls pad hp 92 b w KW hb

set_option maxRecDepth 100000 in
set_option maxHeartbeats 1000000 in
theorem begun_calls (key : List UInt8) (hk : key.length ≤ 4611686018427387904) (w : World) (KW : Keys w) :
    Calls Tryz.prog 118 #[.string (bs key)] w fun e w' => ∃ gi go, e = .returned (.tuple #[.pointer (some ⟨gi, 0, none⟩), .pointer (some ⟨go, 0, none⟩)]) ∧ HashAt w' gi (xorB (padB key) 54) ∧ HashAt w' go (xorB (padB key) 92) ∧ Ext w w' := by
  go_enter Tryz.func118, Tryz.ntmps118
  go_wp2_with fail
  refine (Pad_calls key hk _ KW).mono ?_; rintro e w1 ⟨rfl, e1⟩
  have hp := padB_length key
  obtain ⟨pad, hpd⟩ : ∃ pad, pad = padB key := ⟨_, rfl⟩
  rw [← hpd] at hp ⊢
  have Hpd := Lib.hid hpd; clear hpd
  have hE2 := e1.alloc (.cells #[.string (bs pad)] 9)
  have hb : (w1.alloc (.cells #[.string (bs pad)] 9)).cell? ⟨w1.heap.size, 0, none⟩ = some (.string (bs pad)) := Blk.cell (Blk.new w1 9 #[.string (bs pad)]) 0
  have Hp := Lib.hid hp; clear hp
  go_wp2_with fail
  refine (with54 pad Hp.out _ _ (KW.ext hE2) hb).mono ?_; rintro e w2 ⟨gi, rfl, hgi, hI, e2⟩
  have hb2 : w2.cell? ⟨w1.heap.size, 0, none⟩ = some (.string (bs pad)) := (e2.cell (p := ⟨w1.heap.size, 0, none⟩) (by simp)).trans hb
  have hE3 := hE2.trans e2
  go_wp2_with fail
  refine (with92 pad Hp.out _ _ (KW.ext hE3) hb2).mono ?_; rintro e w3 ⟨go, rfl, hgo, hO, e3⟩
  have hI3 := Blk.below hI e3 (Blk.lt hI)
  have hE4 := hE3.trans e3
  go_wp2_with fail
  go_ret2
  exact ⟨gi, go, rfl, by rw [← Hpd.out]; exact hI3, by rw [← Hpd.out]; exact hO, hE4⟩

/-- A maker: its key's two hashes. -/
def MakerOk (w : World) (m : Nat) (key : List UInt8) : Prop := ∃ gi go, Blk w m 165 #[.pointer (some ⟨gi, 0, none⟩), .pointer (some ⟨go, 0, none⟩)] ∧ HashAt w gi (xorB (padB key) 54) ∧ HashAt w go (xorB (padB key) 92)
theorem MakerOk.ext {w w' : World} {m : Nat} {key : List UInt8} (h : MakerOk w m key) (e : Ext w w') : MakerOk w' m key := by
  obtain ⟨gi, go, h1, h2, h3⟩ := h
  exact ⟨gi, go, Blk.below h1 e h1.lt, Blk.below h2 e (Blk.lt h2), Blk.below h3 e (Blk.lt h3)⟩
theorem MakerOk.lt {w : World} {m : Nat} {key : List UInt8} (h : MakerOk w m key) : m < w.heap.size := by
  obtain ⟨gi, go, h1, _⟩ := h
  exact h1.lt
set_option maxRecDepth 100000 in
theorem MNew_calls (key : List UInt8) (hk : key.length ≤ 4611686018427387904) (w : World) (KW : Keys w) :
    Calls Tryz.prog 104 #[.string (bs key)] w fun e w' => ∃ m, e = .returned (.pointer (some ⟨m, 0, none⟩)) ∧ w.heap.size ≤ m ∧ MakerOk w' m key ∧ Ext w w' := by
  go_enter Tryz.func104, Tryz.ntmps104
  go_wp2_with fail
  refine (begun_calls key hk _ KW).mono ?_; rintro e w1 ⟨gi, go, rfl, hI, hO, e1⟩
  go_wp2_with fail
  go_ret
  exact ⟨_, rfl, e1.size, ⟨gi, go, Blk.new _ _ _, Blk.alloc hI _, Blk.alloc hO _⟩, e1.alloc _⟩

end Go.Proofs.YtcgnjdkennkheaaGreatDoor
