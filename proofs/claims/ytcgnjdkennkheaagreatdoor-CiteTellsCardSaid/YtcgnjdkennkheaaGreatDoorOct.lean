/-
  The walks of layer 1 (octet).
-/
import Derived.Test.YtcgnjdkennkheaaGreatDoorBld
import Derived.Test.YtcgnjdkennkheaaGreatDoorBase
import Derived.Test.YtcgnjdkennkheaaGreatDoorOctP
import Derived.Deep.QuietTactic
import Derived.BigQuiet
import Derived.Lib.Hide
import Derived.Deep.DeepFit
set_option linter.unusedVariables false
set_option maxRecDepth 100000
set_option linter.unusedSimpArgs false
namespace Go.Proofs.YtcgnjdkennkheaaGreatDoor
open Go.RowKit
attribute [local go_sem] bs_size bs_toList2 bs_append bs_extract_end bs_extract_begin bs_get wrap64_b

set_option maxHeartbeats 400000 in
theorem need_calls (n : Int) (w : World) (h0 : 0 ≤ n) (h1 : n ≤ 18446744073709551615) :
    Calls Tryz.prog 77 #[.int .u64 n] w fun e w' => e = .returned (.int .i64 (Oct.need n.toNat)) ∧ w = w' := by
  have hb := Oct.bitLen_le n.toNat
  go_enter Tryz.func77, Tryz.ntmps77
  go_wp2_with (go_at_call 98; refine (Len64_calls _ _ h0 h1).mono ?_; rintro e w' ⟨rfl, rfl⟩)
  go_ret
  exact ⟨ret_int (by unfold Oct.need; omega), rfl⟩

set_option maxHeartbeats 400000 in
theorem Put_calls (n : Int) (w : World) (h0 : 0 ≤ n) (h1 : n ≤ 18446744073709551615) :
    Calls Tryz.prog 36 #[.int .u64 n] w fun e w' => e = .returned (.string (bs (Oct.put n.toNat))) ∧ Ext w w' := by
  have hb := Oct.need_le n.toNat
  obtain ⟨i0, hi, hz0, hz1, hz2⟩ := info_parts info_u8
  go_enter Tryz.func36, Tryz.ntmps36
  have hN := Oct.puts_length (Oct.need n.toNat) n.toNat
  go_wp2_with (first
    | (go_at_call 77; refine (need_calls _ _ h0 h1).mono ?_; rintro e w' ⟨rfl, rfl⟩)
    | (at_make; refine wpList_make_full _ rfl _ _ 87 rfl w.heap.size 5 i0 (.int .u8 0) 1 Tryz.underlying87 hi hz0 hz1 .i64 .i64 _ _ (1 + Oct.need n.toNat) rfl rfl (by omega) (by omega) (by rw [hz2]; omega) (by unfold maxLen; omega) (Nat.le_refl _) ?_; intro w0 hown0 hgrow0; rw [made_bytes] at hown0; have hB0 := blk_of_own hown0 (by omega); have hc0 := hB0.cell 0; rw [Nat.add_comm 1, List.replicate_succ] at hc0; simp at hc0; have hf0 := hB0.frozen 0))
  have hB1 := hB0.set_ 0 (.int .u8 ↑(Oct.need n.toNat))
  have hE1 := (Ext.refl w).grown hgrow0 (Nat.le_refl _) (by simp)
  have hE2 := hE1.setCell (p := ⟨w.heap.size, 0, none⟩) (Nat.le_refl _) (.int .u8 ↑(Oct.need n.toNat))
  have hC1 : ((List.replicate (1 + Oct.need n.toNat) (0 : UInt8)).map byteV).toArray.setIfInBounds 0 (.int .u8 ↑(Oct.need n.toNat)) = ((Oct.puts (Oct.need n.toNat) n.toNat 0).map byteV).toArray := by
    rw [Oct.puts_zero, Nat.add_comm 1, List.replicate_succ]
    simp only [List.map_cons, List.setIfInBounds_toArray, List.set_cons_zero, byteV]
    congr 3
    rw [UInt8.toNat_ofNat', Nat.mod_eq_of_lt (by omega)]
  rw [hC1] at hB1
  clear hB0 hc0 hf0 hown0 hgrow0 hC1 hE1
  go_loopw [16] (fun v wr => ∃ k : Nat, k ≤ Oct.need n.toNat ∧ v = .int .i64 k ∧ Blk wr w.heap.size 5 ((Oct.puts (Oct.need n.toNat) n.toNat k).map byteV).toArray ∧ Ext w wr) (fun v _ => Oct.need n.toNat - (intOf v).toNat)
  case atStart => exact ⟨0, Nat.zero_le _, rfl, hB1, hE2⟩
  case round =>
    clear hB1 hE2
    obtain ⟨k, hk, rfl, hB, hE⟩ := hrel
    by_cases hlt : k < Oct.need n.toNat
    · have hfz := hB.frozen (Oct.need n.toNat - k)
      obtain ⟨u0, hc0⟩ := hB.some_ (Oct.need n.toNat - k) (by simp; rw [hN k hk]; omega)
      have hS : ((Oct.puts (Oct.need n.toNat) n.toNat k).map byteV).toArray.setIfInBounds (Oct.need n.toNat - k) (.int .u8 (n / 2 ^ (8 * k) % 256)) = ((Oct.puts (Oct.need n.toNat) n.toNat (k + 1)).map byteV).toArray := by
        have hv : Value.int .u8 (n / 2 ^ (8 * k) % 256) = byteV (UInt8.ofNat (n.toNat / 256 ^ k)) := by
          obtain ⟨m, rfl⟩ := Int.eq_ofNat_of_zero_le h0
          exact byte_shr m k
        rw [← Oct.puts_succ _ _ _ hlt, List.map_set, List.setIfInBounds_toArray, hv]
      have HS := Lib.hid hS
      clear hS
      go_wp2
      go_roundw
      case rel =>
        refine ⟨k + 1, by omega, by go_num, ?_, hE.setCell (Nat.le_refl _) _⟩
        rw [← HS.out]
        exact hB.set_ _ _
      case measure => simp [intOf]; omega
    · obtain rfl : k = Oct.need n.toNat := by omega
      have hcv := conv_bytes wr _ _ (Oct.put n.toNat) (1 + Oct.need n.toNat) (1 + Oct.need n.toNat) (Oct.put_length _) (by have := hB.rd; rwa [Oct.puts_all] at this)
      go_wp2
      go_ret
      exact ⟨rfl, hE⟩

/-! ### The scanner -/
/-- The scanner at block g. -/
def ScAt (w : World) (g : Nat) (x : Oct.Sc) : Prop := Blk w g 112 #[.string (bs x.left), .bool x.spoil]

theorem ScAt.ext {w w' : World} {g : Nat} {x : Oct.Sc} (h : ScAt w g x) (hb : Ext w w') : ScAt w' g x := Blk.below h hb (Blk.lt h)

set_option maxHeartbeats 400000 in
theorem take_calls (g : Nat) (x : Oct.Sc) (n : Int) (w : World) (h : ScAt w g x) (hl : x.left.length ≤ 9223372036854775807) (hn0 : -9223372036854775808 ≤ n) (hn1 : n ≤ 9223372036854775807) :
    Calls Tryz.prog 83 #[.pointer (some ⟨g, 0, none⟩), .int .i64 n] w fun e w' => e = .returned (.tuple #[.string (bs (x.take n).1), .bool (x.take n).2.1]) ∧ ScAt w' g (x.take n).2.2 ∧ Upd g w w' := by
  obtain ⟨l, sp⟩ := x
  have c0 : w.cell? ⟨g, 0, none⟩ = some (.string (bs l)) := Blk.cell h 0
  have c1 : w.cell? ⟨g, 1, none⟩ = some (.bool sp) := Blk.cell h 1
  have f0 := Blk.frozen h 0
  have f1 := Blk.frozen h 1
  cases sp with
  | true =>
    go_enter Tryz.func83, Tryz.ntmps83
    go_wp2
    go_ret2
    exact ⟨rfl, h, Upd.refl _ _⟩
  | false =>
    by_cases hneg : n < 0
    · have ht : Oct.Sc.take ⟨l, false⟩ n = ([], false, ⟨l, true⟩) := by simp [Oct.Sc.take, Oct.Sc.bad, hneg]
      rw [ht]; clear ht
      go_enter Tryz.func83, Tryz.ntmps83
      go_wp2
      go_ret2
      exact ⟨rfl, Blk.set_ h 1 _, (Upd.refl _ _).setCell (.inl rfl) _⟩
    · by_cases hbig : (l.length : Int) < n
      · have ht : Oct.Sc.take ⟨l, false⟩ n = ([], false, ⟨l, true⟩) := by simp [Oct.Sc.take, Oct.Sc.bad, hbig]
        rw [ht]; clear ht
        go_enter Tryz.func83, Tryz.ntmps83
        go_wp2
        go_ret2
        exact ⟨rfl, Blk.set_ h 1 _, (Upd.refl _ _).setCell (.inl rfl) _⟩
      · obtain ⟨m, rfl⟩ := Int.eq_ofNat_of_zero_le (by omega : 0 ≤ n)
        have hm : m ≤ l.length := by omega
        have ht : Oct.Sc.take ⟨l, false⟩ (m : Int) = (l.take m, true, ⟨l.drop m, false⟩) := by simp [Oct.Sc.take]; omega
        rw [ht]; clear ht
        go_enter Tryz.func83, Tryz.ntmps83
        go_wp2
        go_ret2
        refine ⟨?_, ?_, (Upd.refl _ _).setCell (.inl rfl) _⟩
        · simp
        · have := Blk.set_ h 0 (.string (bs (l.drop m)))
          simpa [ScAt] using this

theorem take_to (g : Nat) (x : Oct.Sc) (n : Int) (w : World) (s : List UInt8) (is : Bool) (x' : Oct.Sc) (ht : x.take n = (s, is, x')) (h : ScAt w g x) (hl : x.left.length ≤ 9223372036854775807) (hn0 : -9223372036854775808 ≤ n) (hn1 : n ≤ 9223372036854775807) :
    Calls Tryz.prog 83 #[.pointer (some ⟨g, 0, none⟩), .int .i64 n] w fun e w' => e = .returned (.tuple #[.string (bs s), .bool is]) ∧ ScAt w' g x' ∧ Upd g w w' := by
  have := take_calls g x n w h hl hn0 hn1
  rwa [ht] at this

theorem take_bad (x : Oct.Sc) : x.take (-1) = ([], false, x.bad) := by
  obtain ⟨l, sp⟩ := x
  cases sp <;> simp [Oct.Sc.take, Oct.Sc.bad]

set_option maxHeartbeats 1000000 in
theorem Long_calls (g : Nat) (x : Oct.Sc) (w : World) (h : ScAt w g x) (hl : x.left.length ≤ 9223372036854775807) :
    Calls Tryz.prog 84 #[.pointer (some ⟨g, 0, none⟩)] w fun e w' => e = .returned (.int .u64 x.long.1) ∧ ScAt w' g x.long.2 ∧ Upd g w w' := by
  obtain ⟨l, sp⟩ := x
  cases sp with
  | true =>
    go_enter Tryz.func84, Tryz.ntmps84
    go_wp2_with (go_at_call 83; (with_reducible refine (take_to g ⟨l, true⟩ 1 _ [] false ⟨l, true⟩ rfl h hl (by omega) (by omega)).mono ?_); rintro e w1 ⟨rfl, h1, hu1⟩)
    go_ret
    exact ⟨rfl, h1, hu1⟩
  | false =>
    rcases l with _ | ⟨c, r⟩
    · go_enter Tryz.func84, Tryz.ntmps84
      go_wp2_with (go_at_call 83; (with_reducible refine (take_to g ⟨[], false⟩ 1 _ [] false ⟨[], true⟩ rfl h hl (by omega) (by omega)).mono ?_); rintro e w1 ⟨rfl, h1, hu1⟩)
      go_ret
      exact ⟨rfl, h1, hu1⟩
    · have hc := c.toNat_lt
      have ht1 : Oct.Sc.take ⟨c :: r, false⟩ 1 = ([c], true, ⟨r, false⟩) := by simp [Oct.Sc.take]; omega
      have hl' : r.length + 1 ≤ 9223372036854775807 := by simpa using hl
      have HT1 := Lib.hid ht1
      clear ht1
      by_cases hb : 8 < c.toNat ∨ r.length < c.toNat
      · have hlong : Oct.Sc.long ⟨c :: r, false⟩ = (0, ⟨r, true⟩) := by simp [Oct.Sc.long, hb]
        rw [hlong]; clear hlong
        have hc256 : c.toNat < 256 := hc
        by_cases hb8 : 8 < c.toNat
        · go_enter Tryz.func84, Tryz.ntmps84
          go_wp2_with fail
          (with_reducible refine (take_to g _ 1 _ _ _ _ HT1.out h hl (by omega) (by omega)).mono ?_); rintro e w1 ⟨rfl, h1, hu1⟩
          go_wp2_with fail
          (with_reducible refine (take_to g _ (-1) _ _ _ _ (take_bad _) h1 (by simp; omega) (by omega) (by omega)).mono ?_); rintro e w2 ⟨rfl, h2, hu2⟩
          go_wp2_with fail
          go_loop [7, 41] (fun n i => n = .int .u64 0 ∧ i = .int .i64 0) (fun _ _ => 0)
          case atStart => exact ⟨rfl, rfl⟩
          case round =>
            obtain ⟨rfl, rfl⟩ := hrel
            go_wp2
            go_ret
            exact ⟨rfl, h2, hu1.trans hu2⟩
        · have ht2 : Oct.Sc.take ⟨r, false⟩ (c.toNat : Int) = ([], false, ⟨r, true⟩) := by simp [Oct.Sc.take, Oct.Sc.bad]; omega
          have HT2 := Lib.hid ht2
          clear ht2
          go_enter Tryz.func84, Tryz.ntmps84
          go_wp2_with fail
          (with_reducible refine (take_to g _ 1 _ _ _ _ HT1.out h hl (by omega) (by omega)).mono ?_); rintro e w1 ⟨rfl, h1, hu1⟩
          go_wp2_with fail
          (with_reducible refine (take_to g _ _ _ _ _ _ HT2.out h1 (by simp; omega) (by omega) (by omega)).mono ?_); rintro e w2 ⟨rfl, h2, hu2⟩
          go_wp2_with fail
          go_loop [7, 41] (fun n i => n = .int .u64 0 ∧ i = .int .i64 0) (fun _ _ => 0)
          case atStart => exact ⟨rfl, rfl⟩
          case round =>
            obtain ⟨rfl, rfl⟩ := hrel
            go_wp2
            go_ret
            exact ⟨rfl, h2, hu1.trans hu2⟩
      · have hc8 : c.toNat ≤ 8 := by omega
        obtain ⟨t, d, rfl, htl⟩ : ∃ t d, r = t ++ d ∧ t.length = c.toNat := ⟨r.take c.toNat, r.drop c.toNat, by simp, by simp; omega⟩
        have ht2 : Oct.Sc.take ⟨t ++ d, false⟩ (c.toNat : Int) = (t, true, ⟨d, false⟩) := by
          have : ¬ ((t.length : Int) + d.length < c.toNat) := by omega
          simp [Oct.Sc.take, this, ← htl]; omega
        have HT2 := Lib.hid ht2
        clear ht2
        by_cases hz : t.head? = some 0
        · obtain ⟨t', rfl⟩ : ∃ t', t = 0 :: t' := by
            rcases t with _ | ⟨z, t'⟩
            · simp at hz
            · simp at hz; exact ⟨t', by rw [hz]⟩
          have hlong : Oct.Sc.long ⟨c :: (0 :: t' ++ d), false⟩ = (0, ⟨d, true⟩) := by
            have h0 : 0 < c.toNat := by simp at htl; omega
            have h1 : ¬ (8 < c.toNat ∨ (0 :: t' ++ d).length < c.toNat) := hb
            simp only [Oct.Sc.long, if_neg h1]
            rw [← htl]
            simp
          rw [hlong]; clear hlong
          have hcp : 0 < c.toNat := by simp at htl; omega
          go_enter Tryz.func84, Tryz.ntmps84
          go_wp2_with fail
          (with_reducible refine (take_to g _ 1 _ _ _ _ HT1.out h hl (by omega) (by omega)).mono ?_); rintro e w1 ⟨rfl, h1, hu1⟩
          go_wp2_with fail
          (with_reducible refine (take_to g _ _ _ _ _ _ HT2.out h1 (by simp at hl' ⊢; omega) (by omega) (by omega)).mono ?_); rintro e w2 ⟨rfl, h2, hu2⟩
          go_wp2_with fail
          (with_reducible refine (take_to g _ (-1) _ _ _ _ (take_bad _) h2 (by simp at hl' ⊢; omega) (by omega) (by omega)).mono ?_); rintro e w3 ⟨rfl, h3, hu3⟩
          go_wp2_with fail
          go_ret
          exact ⟨rfl, h3, (hu1.trans hu2).trans hu3⟩
        · have hlong : Oct.Sc.long ⟨c :: (t ++ d), false⟩ = (Oct.val t, ⟨d, false⟩) := by
            have h2 : ¬ (0 < c.toNat ∧ (t ++ d).head? = some 0) := by
              rintro ⟨h0, h1⟩
              rcases t with _ | ⟨z, t'⟩
              · simp at htl; omega
              · exact hz h1
            simp only [Oct.Sc.long, if_neg hb, if_neg h2]
            rw [← htl]
            simp
          rw [hlong]; clear hlong
          have hz0 : ∀ (hp : 0 < t.length), ((t[0].toNat : Int) == 0) = false := by
            intro hp
            rcases t with _ | ⟨z, t'⟩
            · simp at hp
            · simp only [List.getElem_cons_zero, beq_eq_false_iff_ne, ne_eq]
              intro h0
              apply hz
              simp only [List.head?_cons, Option.some.injEq]
              exact UInt8.toNat_inj.1 (by simpa using h0)
          have HZ := Lib.hid hz0
          clear hz0 hz
          have htl8 : t.length ≤ 8 := by omega
          rcases (show (¬ 0 < t.length) ∨ ∃ hp : 0 < t.length, ((t[0].toNat : Int) == 0) = false from (Nat.lt_or_ge 0 t.length).elim (fun hp => .inr ⟨hp, HZ.out hp⟩) (fun hp => .inl (by omega))) with hp | ⟨hp, hz1⟩
          all_goals
            go_enter Tryz.func84, Tryz.ntmps84
            go_wp2_with fail
            (with_reducible refine (take_to g _ 1 _ _ _ _ HT1.out h hl (by omega) (by omega)).mono ?_); rintro e w1 ⟨rfl, h1, hu1⟩
            go_wp2_with fail
            (with_reducible refine (take_to g _ _ _ _ _ _ HT2.out h1 (by simp at hl' ⊢; omega) (by omega) (by omega)).mono ?_); rintro e w2 ⟨rfl, h2, hu2⟩
            go_wp2_with fail
            go_loop [7, 41] (fun n i => ∃ k : Nat, k ≤ t.length ∧ i = .int .i64 k ∧ n = .int .u64 (Oct.val (t.take k))) (fun _ i => t.length - (intOf i).toNat)
            case atStart => exact ⟨0, Nat.zero_le _, rfl, rfl⟩
            case round =>
              obtain ⟨k, hk, rfl, rfl⟩ := hrel
              by_cases hlt : k < t.length
              · have hv := Oct.val_take t k hlt
                have hb1 := Oct.val_lt (t.take (k + 1))
                have hb2 := Oct.pow_le8 (t.take (k + 1)).length (by simp; omega)
                have hc1 := t[k].toNat_lt
                have HV := Lib.hid hv
                clear hv
                go_wp2
                all_goals
                  go_round
                  case rel => exact ⟨k + 1, by omega, by go_num, by rw [shl8_or _ _ (by rw [← HV.out]; exact Nat.lt_of_lt_of_le hb1 hb2), HV.out]⟩
                  case measure => simp [intOf]; omega
              · go_wp2
                go_ret
                exact ⟨by rw [List.take_of_length_le (by omega)]; rfl, h2, hu1.trans hu2⟩

end Go.Proofs.YtcgnjdkennkheaaGreatDoor
