/-
  The walk of scriniumlaw02.few.
-/
import Derived.Test.YtgofnkpegfkonaaDoorAwk
import Derived.Test.YtgofnkpegfkonaaDoorUpd
import Derived.Test.YtgofnkpegfkonaaDoorOpen
set_option linter.unusedVariables false
set_option linter.unusedSimpArgs false
namespace Go.Proofs.YtgofnkpegfkonaaDoor
open Go.RowKit
attribute [local go_sem] bs_size bs_toList2 bs_append bs_extract_end bs_extract_begin bs_get wrap64_b

theorem info_str2 : (Tryd.prog.info? 9).map (fun i => (i.zero, i.size, i.bytes)) = some (some (.string .empty), 1, 16) := by kernel_rfl
/-- At most 12 texts, of n bytes at most. -/
def fewT (n : Nat) (l : List (List UInt8)) : List (List UInt8) := (l.take 12).map (·.take n)
def fewK (n : Nat) (l : List (List UInt8)) (k : Nat) : List Value := ((l.take k).map (·.take n)).map strV
theorem fewK_succ (n : Nat) (l : List (List UInt8)) (k : Nat) (h : k < l.length) : fewK n l (k + 1) = fewK n l k ++ [strV (l[k].take n)] := by
  unfold fewK
  rw [List.take_succ_eq_append_getElem h]
  simp only [List.map_append, List.map_cons, List.map_nil]
theorem fewK_all (n : Nat) (l : List (List UInt8)) (k : Nat) (h : k = l.length ∨ k = 12) (h' : k ≤ l.length) (h12 : k ≤ 12) : fewK n l k = (fewT n l).map strV ∧ (fewT n l).length = k := by
  have hf : (l.take k).map (·.take n) = fewT n l := by
    unfold fewT
    congr 1
    rcases h with rfl | rfl
    · rw [List.take_of_length_le (Nat.le_refl _), List.take_of_length_le (by omega)]
    · rfl
  exact ⟨by unfold fewK; rw [hf], by rw [← hf]; simp; omega⟩
theorem fewT_length (n : Nat) (l : List (List UInt8)) : (fewT n l).length ≤ 12 := by simp [fewT]; omega
theorem fewT_each (n : Nat) (l : List (List UInt8)) : ∀ s ∈ fewT n l, s.length ≤ n := by
  intro s hs
  simp only [fewT, List.mem_map] at hs
  obtain ⟨t, _, rfl⟩ := hs
  simp; omega

set_option maxRecDepth 100000 in
set_option maxHeartbeats 1000000 in
theorem few02_calls (B : Nat) (A : Option Addr) (cap : Nat) (l : List (List UInt8)) (w : World) (h : Rd w B A (l.map strV)) (hB : B ≤ w.heap.size) (hl : l.length ≤ 9223372036854775807) (he : ∀ s ∈ l, s.length ≤ 9223372036854775807) :
    Calls Tryd.prog 27 #[.slice A l.length cap] w fun e w' => (∃ A' c', e = .returned (.slice A' (fewT 150 l).length c') ∧ Fr w' w.heap.size A' ((fewT 150 l).map strV)) ∧ Ext w w' := by
  obtain ⟨i0, hi, hz0, hz1, hz2⟩ := info_parts info_str2
  go_enter Tryd.func27, Tryd.ntmps27
  go_wp2
  go_loopw [3, 4] (fun v i wr => ∃ k : Nat, k ≤ l.length ∧ k ≤ 12 ∧ i = .int .i64 k ∧ wr.ownsRow w.heap.size 9 1 v k (fewK 150 l k) ∧ Ext w wr) (fun _ i _ => l.length - (intOf i).toNat)
  case atStart => exact ⟨0, Nat.zero_le _, Nat.zero_le _, rfl, World.ownsRow_nil _ _ _ _, Ext.refl _⟩
  case round =>
    obtain ⟨k, hk, hk12, rfl, hown, hE⟩ := hrel
    by_cases hlt : k < l.length ∧ k < 12
    · obtain ⟨hlt, hlt12⟩ := hlt
      obtain ⟨b, off, rfl, hbB, hc⟩ := (h.below hE hB) (map_ne strV hlt)
      have hck : wr.cell? ⟨b, off + k, none⟩ = some (.string (bs l[k])) := hc k _ (by rw [List.getElem?_map, List.getElem?_eq_getElem hlt]; rfl)
      have hlk := he _ (List.getElem_mem hlt)
      have HS := Lib.hid (fewK_succ 150 l k hlt)
      clear hc
      go_wp2_with fail
      refine (short_calls l[k] 150 _ hlk (by omega)).mono ?_; rintro e w3 ⟨rfl, rfl⟩
      go_wp2_with (at_builtin; refine wpList_append_own _ rfl _ _ 43 rfl w.heap.size 9 i0 (.string .empty) 1 16 Tryd.underlying43 hi hz0 hz1 hz2 rfl (by decide) _ _ _ rfl (hown.alloc _) ⟨wr.heap.size, 0, none⟩ 1 1 [strV (l[k].take 150)] rfl rfl ?c1 ?c2 ?c3 ?c4 ?c5 ?_)
      case c1 =>
        intro j u hj
        match j, hj with
        | 0, hj => simp at hj; subst hj; simp [Addr.add, strV]
      case c2 => intro u hu; simp at hu; subst hu; rfl
      case c3 => unfold maxLen; omega
      case c4 => omega
      case c5 => have := hE.size; simp; omega
      intro v' w1 hown' hgrow _
      have hE' : Ext w w1 := (hE.alloc _).grown hgrow (by have := hE.size; simp; omega) (fun g hg => (hown.lt g hg).1)
      rw [← HS.out] at hown'
      clear hgrow hown 
      go_wp2
      go_roundw
      case rel => exact ⟨k + 1, by omega, by omega, by go_num, hown', hE'⟩
      case measure => simp [intOf]; omega
    · have HF := Lib.hid (fewK_all 150 l k (by omega) hk hk12)
      rcases (show (¬ k < l.length) ∨ (k < l.length ∧ ¬ k < 12) from by omega) with hn | ⟨hp, hn⟩
      all_goals
        go_wp2
        go_ret
        obtain ⟨hf, hl'⟩ := HF.out
        rw [hf] at hown
        refine ⟨?_, hE⟩
        rcases hown.2 with ⟨rfl, h0⟩ | ⟨gg, cap, cur, rfl, _⟩
        · have h1 : fewT 150 l = [] := List.eq_nil_of_length_eq_zero (by omega)
          rw [h1]
          exact ⟨none, 0, rfl, Fr.nil⟩
        · exact ⟨some ⟨gg, 0, none⟩, cap, by rw [hl']; rfl, Fr.of_own hown⟩

end Go.Proofs.YtgofnkpegfkonaaDoor
