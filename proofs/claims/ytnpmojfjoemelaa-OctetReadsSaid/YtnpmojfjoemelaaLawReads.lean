/-
  scriniumlaw01.OctetReads: reading by any calls answers as the document does.
-/
import Derived.Test.YtnpmojfjoemelaaOpen
import Derived.Test.YtnpmojfjoemelaaRef1
import Derived.Test.YtnpmojfjoemelaaOctA
set_option linter.unusedVariables false
set_option linter.unusedSimpArgs false
namespace Go.Proofs.Ytnpmojfjoemelaa.octetReads
open Go.ChangeShapes Go.WideShapes Go.ChangeAt Go.RowKit
attribute [local go_sem] bs_size bs_toList2 bs_append bs_extract_end bs_extract_begin bs_get wrap64_b

theorem texts_count (n : Nat) (x : Oct.Sc) : (x.texts n).1.length ≤ x.left.length := by
  induction n generalizing x with
  | zero => simp [Oct.Sc.texts]
  | succ n ih =>
    cases hsp : (x.text 16777216).2.spoil
    · rw [Oct.texts_go _ _ hsp]
      have h1 := (Oct.text_sound _ _ hsp).2
      have h2 := ih (x.text 16777216).2
      simp only [List.length_cons]
      omega
    · rw [Oct.texts_stop _ _ hsp]; simp
theorem list_count (x : Oct.Sc) (most : Int) : (x.list most).1.length ≤ x.left.length := by
  unfold Oct.Sc.list
  have h1 := Oct.num_left_le x most
  have h2 := texts_count (x.num most).1.toNat (x.num most).2
  split
  · simp
  · omega

set_option maxHeartbeats 2000000 in
set_option maxRecDepth 100000 in
theorem walk (s0 : List UInt8) (l : List Int) (B : Nat) (A : Option Addr) (c : Nat) (hs : s0.length ≤ 9223372036854775807) (w : World) (hB : B ≤ w.heap.size)
    (h1 : Rd w B A (l.map intV)) (hl : l.length ≤ 9223372036854775807) (he : ∀ i ∈ l, -9223372036854775808 ≤ i ∧ i ≤ 9223372036854775807) :
    Calls Try.prog 9 #[.string (bs s0), .slice A l.length c] w fun e w' => e = .returned (.bool true) ∧ Ext w w' := by
  go_enter Try.func9, Try.ntmps9
  go_wp2_with fail
  refine (awake_calls _).mono ?_; rintro e w1 ⟨rfl, e1⟩
  go_wp2_with fail
  refine (short01_calls s0 400 _ (by omega) (by omega)).mono ?_; rintro e w1 ⟨rfl, rfl⟩
  have hls : (s0.take 400).length ≤ 400 := by simp; omega
  generalize s0.take 400 = s at *
  go_wp2_with fail
  (with_reducible refine (Read_calls s _).mono ?_); rintro e w2 ⟨rfl, rfl⟩
  have hx0 := Read_at s w1
  go_wp2_with fail
  have hB0 : B ≤ w1.heap.size := Nat.le_trans hB e1.size
  go_loopw [8] (fun v wr => ∃ (j : Nat) (x : Oct.Sc), j ≤ l.length ∧ j ≤ 40 ∧ v = .int .i64 j ∧ ScAt wr w1.heap.size x ∧ RfAt wr (w1.heap.size + 1) s x ∧ x.left.length ≤ 400 ∧ Ext w wr) (fun v _ => 40 - (intOf v).toNat)
  case atStart => exact ⟨0, ⟨s, false⟩, Nat.zero_le _, Nat.zero_le _, rfl, Blk.alloc hx0 _, ⟨0, Nat.zero_le _, by have := Blk.new (w1.alloc (.cells #[.string (bs s), .bool false] 62)) 55 #[.string (bs s), .int .i64 0, .bool false]; simpa using this, fun _ => rfl⟩, hls, (e1.alloc _).alloc _⟩
  case round =>
    clear hx0
    obtain ⟨j, x, hj, hj40, rfl, hX, hY, hxl, hE⟩ := hrel
    by_cases hlt : j < l.length ∧ j < 40
    · obtain ⟨hlt, hlt40⟩ := hlt
      obtain ⟨b, off, rfl, hbB, hc⟩ := (h1.below hE hB) (map_ne intV hlt)
      have hck : wr.cell? ⟨b, off + j, none⟩ = some (.int .i64 l[j]) := hc j _ (by rw [List.getElem?_map, List.getElem?_eq_getElem hlt]; rfl)
      have hlj := he _ (List.getElem_mem hlt)
      obtain ⟨v, hv⟩ : ∃ v, v = l[j] := ⟨_, rfl⟩
      rw [← hv] at hck hlj
      obtain ⟨most, hm0, hm1, hnx⟩ : ∃ most : Int, -9223372036854775808 ≤ most ∧ most ≤ 9223372036854775807 ∧ ((¬ j + 1 < l.length ∧ most = 1125899906842624) ∨ (j + 1 < l.length ∧ wr.cell? ⟨b, off + (j + 1), none⟩ = some (.int .i64 most))) := by
        by_cases hj1 : j + 1 < l.length
        · have := he _ (List.getElem_mem hj1)
          exact ⟨l[j + 1], this.1, this.2, .inr ⟨hj1, hc (j + 1) _ (by rw [List.getElem?_map, List.getElem?_eq_getElem hj1]; rfl)⟩⟩
        · exact ⟨_, by omega, by omega, .inl ⟨hj1, rfl⟩⟩
      clear hc hv
      have ht0 := Int.tmod_lt_of_pos v (b := 4) (by omega)
      rcases (show v.tmod 4 = 0 ∨ v.tmod 4 = 1 ∨ v.tmod 4 = 2 ∨ v.tmod 4 = 3 ∨ v.tmod 4 = -1 ∨ v.tmod 4 = -2 ∨ v.tmod 4 = -3 from by
        have h1 : -4 < v.tmod 4 := by have := Int.lt_tmod_of_pos v (b := 4) (by omega); omega
        omega) with hr | hr | hr | hr | hr | hr | hr <;> rcases hnx with ⟨hn, rfl⟩ | ⟨hn, hck1⟩
      all_goals clear ht0 h1
      · go_wp2_with fail
        refine (Long_calls w1.heap.size x _ hX (by omega)).mono ?_; rintro e w3 ⟨rfl, hX3, hu3⟩
        have hY3 := RfAt.grown hY hu3 (by simp)
        have hE3 := hE.upd hu3 e1.size
        go_wp2_with fail
        refine (rfLong_calls (w1.heap.size + 1) s x _ hY3 (by omega)).mono ?_; rintro e w4 ⟨rfl, hY4, hu4⟩
        have hX4 : ScAt w4 _ _ := Blk.grown hX3 hu4 (by simp)
        have hE4 := hE3.upd hu4 (by have := e1.size; omega)
        have hb := Oct.long_left_le x
        clear hu3 hu4 hX3 hY3 hE3 hX hY hE
        generalize x.long.2 = x' at hX4 hY4 hb
        go_wp2_with fail
        replace hb : x'.left.length ≤ 400 := Nat.le_trans hb hxl
        have hsn : ((!x'.spoil) == x'.spoil) = false := by cases x'.spoil <;> rfl
        obtain ⟨m4, hm4, hB4, _⟩ := id hY4
        have c2 : w4.cell? ⟨w1.heap.size + 1, 2, none⟩ = some (.bool x'.spoil) := Blk.cell hB4 2
        go_quiet (first
          | (go_at_call 43; exact quiet_eq (Left_calls _ x' _ (Blk.drewN hX4 _) (by omega)))
          | (go_at_call 44; exact Calls.quiet_of (rfLeft_calls _ s x' _ (hY4.drewN _) (by omega)))
          | (go_at_call 26; exact quiet_eq (Sound_calls _ x' _ (Blk.drewN hX4 _)))
          | (go_at_call 27; exact quiet_eq (End_calls _ x' _ (Blk.drewN hX4 _)))
          | (go_at_call 45; exact Calls.quiet_of (rfEnd_calls _ s x' _ (hY4.drewN _) (by omega))))
        go_wp2_with fail
        go_roundw
        case rel => exact ⟨j + 1, x', by omega, by omega, by go_num, Blk.drewN hX4 _, hY4.drewN _, hb, hE4.drewN _⟩
        case measure => simp [intOf]; omega
      · go_wp2_with fail
        refine (Long_calls w1.heap.size x _ hX (by omega)).mono ?_; rintro e w3 ⟨rfl, hX3, hu3⟩
        have hY3 := RfAt.grown hY hu3 (by simp)
        have hE3 := hE.upd hu3 e1.size
        go_wp2_with fail
        refine (rfLong_calls (w1.heap.size + 1) s x _ hY3 (by omega)).mono ?_; rintro e w4 ⟨rfl, hY4, hu4⟩
        have hX4 : ScAt w4 _ _ := Blk.grown hX3 hu4 (by simp)
        have hE4 := hE3.upd hu4 (by have := e1.size; omega)
        have hb := Oct.long_left_le x
        clear hu3 hu4 hX3 hY3 hE3 hX hY hE
        generalize x.long.2 = x' at hX4 hY4 hb
        go_wp2_with fail
        replace hb : x'.left.length ≤ 400 := Nat.le_trans hb hxl
        have hsn : ((!x'.spoil) == x'.spoil) = false := by cases x'.spoil <;> rfl
        obtain ⟨m4, hm4, hB4, _⟩ := id hY4
        have c2 : w4.cell? ⟨w1.heap.size + 1, 2, none⟩ = some (.bool x'.spoil) := Blk.cell hB4 2
        go_quiet (first
          | (go_at_call 43; exact quiet_eq (Left_calls _ x' _ (Blk.drewN hX4 _) (by omega)))
          | (go_at_call 44; exact Calls.quiet_of (rfLeft_calls _ s x' _ (hY4.drewN _) (by omega)))
          | (go_at_call 26; exact quiet_eq (Sound_calls _ x' _ (Blk.drewN hX4 _)))
          | (go_at_call 27; exact quiet_eq (End_calls _ x' _ (Blk.drewN hX4 _)))
          | (go_at_call 45; exact Calls.quiet_of (rfEnd_calls _ s x' _ (hY4.drewN _) (by omega))))
        go_wp2_with fail
        go_roundw
        case rel => exact ⟨j + 1, x', by omega, by omega, by go_num, Blk.drewN hX4 _, hY4.drewN _, hb, hE4.drewN _⟩
        case measure => simp [intOf]; omega
      · go_wp2_with fail
        refine (Num_calls w1.heap.size x 1125899906842624 _ hX (by omega) hm0 hm1).mono ?_; rintro e w3 ⟨rfl, hX3, hu3⟩
        have hY3 := RfAt.grown hY hu3 (by simp)
        have hE3 := hE.upd hu3 e1.size
        go_wp2_with fail
        refine (rfNum_calls (w1.heap.size + 1) s x 1125899906842624 _ hY3 (by omega) hm0 hm1).mono ?_; rintro e w4 ⟨rfl, hY4, hu4⟩
        have hX4 : ScAt w4 _ _ := Blk.grown hX3 hu4 (by simp)
        have hE4 := hE3.upd hu4 (by have := e1.size; omega)
        have hb := Oct.num_left_le x 1125899906842624
        clear hu3 hu4 hX3 hY3 hE3 hX hY hE
        generalize (x.num 1125899906842624).2 = x' at hX4 hY4 hb
        go_wp2_with fail
        replace hb : x'.left.length ≤ 400 := Nat.le_trans hb hxl
        have hsn : ((!x'.spoil) == x'.spoil) = false := by cases x'.spoil <;> rfl
        obtain ⟨m4, hm4, hB4, _⟩ := id hY4
        have c2 : w4.cell? ⟨w1.heap.size + 1, 2, none⟩ = some (.bool x'.spoil) := Blk.cell hB4 2
        go_quiet (first
          | (go_at_call 43; exact quiet_eq (Left_calls _ x' _ (Blk.drewN hX4 _) (by omega)))
          | (go_at_call 44; exact Calls.quiet_of (rfLeft_calls _ s x' _ (hY4.drewN _) (by omega)))
          | (go_at_call 26; exact quiet_eq (Sound_calls _ x' _ (Blk.drewN hX4 _)))
          | (go_at_call 27; exact quiet_eq (End_calls _ x' _ (Blk.drewN hX4 _)))
          | (go_at_call 45; exact Calls.quiet_of (rfEnd_calls _ s x' _ (hY4.drewN _) (by omega))))
        go_wp2_with fail
        go_roundw
        case rel => exact ⟨j + 1, x', by omega, by omega, by go_num, Blk.drewN hX4 _, hY4.drewN _, hb, hE4.drewN _⟩
        case measure => simp [intOf]; omega
      · go_wp2_with fail
        refine (Num_calls w1.heap.size x most _ hX (by omega) hm0 hm1).mono ?_; rintro e w3 ⟨rfl, hX3, hu3⟩
        have hY3 := RfAt.grown hY hu3 (by simp)
        have hE3 := hE.upd hu3 e1.size
        go_wp2_with fail
        refine (rfNum_calls (w1.heap.size + 1) s x most _ hY3 (by omega) hm0 hm1).mono ?_; rintro e w4 ⟨rfl, hY4, hu4⟩
        have hX4 : ScAt w4 _ _ := Blk.grown hX3 hu4 (by simp)
        have hE4 := hE3.upd hu4 (by have := e1.size; omega)
        have hb := Oct.num_left_le x most
        clear hu3 hu4 hX3 hY3 hE3 hX hY hE
        generalize (x.num most).2 = x' at hX4 hY4 hb
        go_wp2_with fail
        replace hb : x'.left.length ≤ 400 := Nat.le_trans hb hxl
        have hsn : ((!x'.spoil) == x'.spoil) = false := by cases x'.spoil <;> rfl
        obtain ⟨m4, hm4, hB4, _⟩ := id hY4
        have c2 : w4.cell? ⟨w1.heap.size + 1, 2, none⟩ = some (.bool x'.spoil) := Blk.cell hB4 2
        go_quiet (first
          | (go_at_call 43; exact quiet_eq (Left_calls _ x' _ (Blk.drewN hX4 _) (by omega)))
          | (go_at_call 44; exact Calls.quiet_of (rfLeft_calls _ s x' _ (hY4.drewN _) (by omega)))
          | (go_at_call 26; exact quiet_eq (Sound_calls _ x' _ (Blk.drewN hX4 _)))
          | (go_at_call 27; exact quiet_eq (End_calls _ x' _ (Blk.drewN hX4 _)))
          | (go_at_call 45; exact Calls.quiet_of (rfEnd_calls _ s x' _ (hY4.drewN _) (by omega))))
        go_wp2_with fail
        go_roundw
        case rel => exact ⟨j + 1, x', by omega, by omega, by go_num, Blk.drewN hX4 _, hY4.drewN _, hb, hE4.drewN _⟩
        case measure => simp [intOf]; omega
      · go_wp2_with fail
        refine (ScText_calls w1.heap.size x 1125899906842624 _ hX (by omega) hm0 hm1).mono ?_; rintro e w3 ⟨rfl, hX3, hu3⟩
        have hY3 := RfAt.grown hY hu3 (by simp)
        have hE3 := hE.upd hu3 e1.size
        go_wp2_with fail
        refine (rfText_calls (w1.heap.size + 1) s x 1125899906842624 _ hY3 (by omega) hm0 hm1).mono ?_; rintro e w4 ⟨rfl, hY4, hu4⟩
        have hX4 : ScAt w4 _ _ := Blk.grown hX3 hu4 (by simp)
        have hE4 := hE3.upd hu4 (by have := e1.size; omega)
        have hb := Oct.text_left_le x 1125899906842624
        clear hu3 hu4 hX3 hY3 hE3 hX hY hE
        generalize (x.text 1125899906842624).2 = x' at hX4 hY4 hb
        go_wp2_with fail
        replace hb : x'.left.length ≤ 400 := Nat.le_trans hb hxl
        have hsn : ((!x'.spoil) == x'.spoil) = false := by cases x'.spoil <;> rfl
        obtain ⟨m4, hm4, hB4, _⟩ := id hY4
        have c2 : w4.cell? ⟨w1.heap.size + 1, 2, none⟩ = some (.bool x'.spoil) := Blk.cell hB4 2
        go_quiet (first
          | (go_at_call 43; exact quiet_eq (Left_calls _ x' _ (Blk.drewN hX4 _) (by omega)))
          | (go_at_call 44; exact Calls.quiet_of (rfLeft_calls _ s x' _ (hY4.drewN _) (by omega)))
          | (go_at_call 26; exact quiet_eq (Sound_calls _ x' _ (Blk.drewN hX4 _)))
          | (go_at_call 27; exact quiet_eq (End_calls _ x' _ (Blk.drewN hX4 _)))
          | (go_at_call 45; exact Calls.quiet_of (rfEnd_calls _ s x' _ (hY4.drewN _) (by omega))))
        go_wp2_with fail
        go_roundw
        case rel => exact ⟨j + 1, x', by omega, by omega, by go_num, Blk.drewN hX4 _, hY4.drewN _, hb, hE4.drewN _⟩
        case measure => simp [intOf]; omega
      · go_wp2_with fail
        refine (ScText_calls w1.heap.size x most _ hX (by omega) hm0 hm1).mono ?_; rintro e w3 ⟨rfl, hX3, hu3⟩
        have hY3 := RfAt.grown hY hu3 (by simp)
        have hE3 := hE.upd hu3 e1.size
        go_wp2_with fail
        refine (rfText_calls (w1.heap.size + 1) s x most _ hY3 (by omega) hm0 hm1).mono ?_; rintro e w4 ⟨rfl, hY4, hu4⟩
        have hX4 : ScAt w4 _ _ := Blk.grown hX3 hu4 (by simp)
        have hE4 := hE3.upd hu4 (by have := e1.size; omega)
        have hb := Oct.text_left_le x most
        clear hu3 hu4 hX3 hY3 hE3 hX hY hE
        generalize (x.text most).2 = x' at hX4 hY4 hb
        go_wp2_with fail
        replace hb : x'.left.length ≤ 400 := Nat.le_trans hb hxl
        have hsn : ((!x'.spoil) == x'.spoil) = false := by cases x'.spoil <;> rfl
        obtain ⟨m4, hm4, hB4, _⟩ := id hY4
        have c2 : w4.cell? ⟨w1.heap.size + 1, 2, none⟩ = some (.bool x'.spoil) := Blk.cell hB4 2
        go_quiet (first
          | (go_at_call 43; exact quiet_eq (Left_calls _ x' _ (Blk.drewN hX4 _) (by omega)))
          | (go_at_call 44; exact Calls.quiet_of (rfLeft_calls _ s x' _ (hY4.drewN _) (by omega)))
          | (go_at_call 26; exact quiet_eq (Sound_calls _ x' _ (Blk.drewN hX4 _)))
          | (go_at_call 27; exact quiet_eq (End_calls _ x' _ (Blk.drewN hX4 _)))
          | (go_at_call 45; exact Calls.quiet_of (rfEnd_calls _ s x' _ (hY4.drewN _) (by omega))))
        go_wp2_with fail
        go_roundw
        case rel => exact ⟨j + 1, x', by omega, by omega, by go_num, Blk.drewN hX4 _, hY4.drewN _, hb, hE4.drewN _⟩
        case measure => simp [intOf]; omega
      · go_wp2_with fail
        refine (ScList_calls w1.heap.size x 1125899906842624 _ hX (by omega) hm0 hm1).mono ?_; rintro e w3 ⟨hX3, ⟨A3, c3, rfl, hr3⟩, hu3⟩
        have hY3 := RfAt.grown hY hu3 (by simp)
        have hE3 := hE.upd hu3 e1.size
        have hlc := list_count x 1125899906842624
        go_wp2_with fail
        refine (rfList_calls (w1.heap.size + 1) s x 1125899906842624 _ hY3 (by omega) (by omega) hm0 hm1).mono ?_; rintro e w4 ⟨hY4, ⟨A4, c4, rfl, hr4⟩, hu4⟩
        have hX4 : ScAt w4 _ _ := Blk.grown hX3 hu4 (by simp)
        have hE4 := hE3.upd hu4 (by have := e1.size; omega)
        have hr3' : Fr w4 wr.heap.size A3 _ := Fr.kept hr3 (Keep.of_upd (S := fun k => k ≠ w1.heap.size + 1) hu4 (by simp)) (fun k hk => by have := hY.lt; omega)
        go_wp2_with fail
        (with_reducible refine (Same01_calls w4.heap.size A3 A4 c3 c4 _ _ _ (hr3'.rd) (hr4.rd) (Nat.le_refl _) (by omega) (by omega)).mono ?_); rintro e w5 ⟨rfl, h5⟩
        replace hX4 : ScAt w5 _ _ := Blk.below hX4 h5 hX4.lt
        replace hY4 := hY4.ext h5
        replace hE4 := hE4.trans h5
        clear hr3 hr3' hr4 h5
        have hb := Oct.list_left_le x 1125899906842624
        clear hu3 hu4 hX3 hY3 hE3 hX hY hE
        generalize (x.list 1125899906842624).2 = x' at hX4 hY4 hb
        go_wp2_with fail
        replace hb : x'.left.length ≤ 400 := Nat.le_trans hb hxl
        have hsn : ((!x'.spoil) == x'.spoil) = false := by cases x'.spoil <;> rfl
        obtain ⟨m4, hm4, hB4, _⟩ := id hY4
        have c2 : w5.cell? ⟨w1.heap.size + 1, 2, none⟩ = some (.bool x'.spoil) := Blk.cell hB4 2
        go_quiet (first
          | (go_at_call 43; exact quiet_eq (Left_calls _ x' _ (Blk.drewN hX4 _) (by omega)))
          | (go_at_call 44; exact Calls.quiet_of (rfLeft_calls _ s x' _ (hY4.drewN _) (by omega)))
          | (go_at_call 26; exact quiet_eq (Sound_calls _ x' _ (Blk.drewN hX4 _)))
          | (go_at_call 27; exact quiet_eq (End_calls _ x' _ (Blk.drewN hX4 _)))
          | (go_at_call 45; exact Calls.quiet_of (rfEnd_calls _ s x' _ (hY4.drewN _) (by omega))))
        go_wp2_with fail
        go_roundw
        case rel => exact ⟨j + 1, x', by omega, by omega, by go_num, Blk.drewN hX4 _, hY4.drewN _, hb, hE4.drewN _⟩
        case measure => simp [intOf]; omega
      · go_wp2_with fail
        refine (ScList_calls w1.heap.size x most _ hX (by omega) hm0 hm1).mono ?_; rintro e w3 ⟨hX3, ⟨A3, c3, rfl, hr3⟩, hu3⟩
        have hY3 := RfAt.grown hY hu3 (by simp)
        have hE3 := hE.upd hu3 e1.size
        have hlc := list_count x most
        go_wp2_with fail
        refine (rfList_calls (w1.heap.size + 1) s x most _ hY3 (by omega) (by omega) hm0 hm1).mono ?_; rintro e w4 ⟨hY4, ⟨A4, c4, rfl, hr4⟩, hu4⟩
        have hX4 : ScAt w4 _ _ := Blk.grown hX3 hu4 (by simp)
        have hE4 := hE3.upd hu4 (by have := e1.size; omega)
        have hr3' : Fr w4 wr.heap.size A3 _ := Fr.kept hr3 (Keep.of_upd (S := fun k => k ≠ w1.heap.size + 1) hu4 (by simp)) (fun k hk => by have := hY.lt; omega)
        go_wp2_with fail
        (with_reducible refine (Same01_calls w4.heap.size A3 A4 c3 c4 _ _ _ (hr3'.rd) (hr4.rd) (Nat.le_refl _) (by omega) (by omega)).mono ?_); rintro e w5 ⟨rfl, h5⟩
        replace hX4 : ScAt w5 _ _ := Blk.below hX4 h5 hX4.lt
        replace hY4 := hY4.ext h5
        replace hE4 := hE4.trans h5
        clear hr3 hr3' hr4 h5
        have hb := Oct.list_left_le x most
        clear hu3 hu4 hX3 hY3 hE3 hX hY hE
        generalize (x.list most).2 = x' at hX4 hY4 hb
        go_wp2_with fail
        replace hb : x'.left.length ≤ 400 := Nat.le_trans hb hxl
        have hsn : ((!x'.spoil) == x'.spoil) = false := by cases x'.spoil <;> rfl
        obtain ⟨m4, hm4, hB4, _⟩ := id hY4
        have c2 : w5.cell? ⟨w1.heap.size + 1, 2, none⟩ = some (.bool x'.spoil) := Blk.cell hB4 2
        go_quiet (first
          | (go_at_call 43; exact quiet_eq (Left_calls _ x' _ (Blk.drewN hX4 _) (by omega)))
          | (go_at_call 44; exact Calls.quiet_of (rfLeft_calls _ s x' _ (hY4.drewN _) (by omega)))
          | (go_at_call 26; exact quiet_eq (Sound_calls _ x' _ (Blk.drewN hX4 _)))
          | (go_at_call 27; exact quiet_eq (End_calls _ x' _ (Blk.drewN hX4 _)))
          | (go_at_call 45; exact Calls.quiet_of (rfEnd_calls _ s x' _ (hY4.drewN _) (by omega))))
        go_wp2_with fail
        go_roundw
        case rel => exact ⟨j + 1, x', by omega, by omega, by go_num, Blk.drewN hX4 _, hY4.drewN _, hb, hE4.drewN _⟩
        case measure => simp [intOf]; omega
      · go_wp2_with fail
        refine (Num_calls w1.heap.size x 1125899906842624 _ hX (by omega) hm0 hm1).mono ?_; rintro e w3 ⟨rfl, hX3, hu3⟩
        have hY3 := RfAt.grown hY hu3 (by simp)
        have hE3 := hE.upd hu3 e1.size
        go_wp2_with fail
        refine (rfNum_calls (w1.heap.size + 1) s x 1125899906842624 _ hY3 (by omega) hm0 hm1).mono ?_; rintro e w4 ⟨rfl, hY4, hu4⟩
        have hX4 : ScAt w4 _ _ := Blk.grown hX3 hu4 (by simp)
        have hE4 := hE3.upd hu4 (by have := e1.size; omega)
        have hb := Oct.num_left_le x 1125899906842624
        clear hu3 hu4 hX3 hY3 hE3 hX hY hE
        generalize (x.num 1125899906842624).2 = x' at hX4 hY4 hb
        go_wp2_with fail
        replace hb : x'.left.length ≤ 400 := Nat.le_trans hb hxl
        have hsn : ((!x'.spoil) == x'.spoil) = false := by cases x'.spoil <;> rfl
        obtain ⟨m4, hm4, hB4, _⟩ := id hY4
        have c2 : w4.cell? ⟨w1.heap.size + 1, 2, none⟩ = some (.bool x'.spoil) := Blk.cell hB4 2
        go_quiet (first
          | (go_at_call 43; exact quiet_eq (Left_calls _ x' _ (Blk.drewN hX4 _) (by omega)))
          | (go_at_call 44; exact Calls.quiet_of (rfLeft_calls _ s x' _ (hY4.drewN _) (by omega)))
          | (go_at_call 26; exact quiet_eq (Sound_calls _ x' _ (Blk.drewN hX4 _)))
          | (go_at_call 27; exact quiet_eq (End_calls _ x' _ (Blk.drewN hX4 _)))
          | (go_at_call 45; exact Calls.quiet_of (rfEnd_calls _ s x' _ (hY4.drewN _) (by omega))))
        go_wp2_with fail
        go_roundw
        case rel => exact ⟨j + 1, x', by omega, by omega, by go_num, Blk.drewN hX4 _, hY4.drewN _, hb, hE4.drewN _⟩
        case measure => simp [intOf]; omega
      · go_wp2_with fail
        refine (Num_calls w1.heap.size x most _ hX (by omega) hm0 hm1).mono ?_; rintro e w3 ⟨rfl, hX3, hu3⟩
        have hY3 := RfAt.grown hY hu3 (by simp)
        have hE3 := hE.upd hu3 e1.size
        go_wp2_with fail
        refine (rfNum_calls (w1.heap.size + 1) s x most _ hY3 (by omega) hm0 hm1).mono ?_; rintro e w4 ⟨rfl, hY4, hu4⟩
        have hX4 : ScAt w4 _ _ := Blk.grown hX3 hu4 (by simp)
        have hE4 := hE3.upd hu4 (by have := e1.size; omega)
        have hb := Oct.num_left_le x most
        clear hu3 hu4 hX3 hY3 hE3 hX hY hE
        generalize (x.num most).2 = x' at hX4 hY4 hb
        go_wp2_with fail
        replace hb : x'.left.length ≤ 400 := Nat.le_trans hb hxl
        have hsn : ((!x'.spoil) == x'.spoil) = false := by cases x'.spoil <;> rfl
        obtain ⟨m4, hm4, hB4, _⟩ := id hY4
        have c2 : w4.cell? ⟨w1.heap.size + 1, 2, none⟩ = some (.bool x'.spoil) := Blk.cell hB4 2
        go_quiet (first
          | (go_at_call 43; exact quiet_eq (Left_calls _ x' _ (Blk.drewN hX4 _) (by omega)))
          | (go_at_call 44; exact Calls.quiet_of (rfLeft_calls _ s x' _ (hY4.drewN _) (by omega)))
          | (go_at_call 26; exact quiet_eq (Sound_calls _ x' _ (Blk.drewN hX4 _)))
          | (go_at_call 27; exact quiet_eq (End_calls _ x' _ (Blk.drewN hX4 _)))
          | (go_at_call 45; exact Calls.quiet_of (rfEnd_calls _ s x' _ (hY4.drewN _) (by omega))))
        go_wp2_with fail
        go_roundw
        case rel => exact ⟨j + 1, x', by omega, by omega, by go_num, Blk.drewN hX4 _, hY4.drewN _, hb, hE4.drewN _⟩
        case measure => simp [intOf]; omega
      · go_wp2_with fail
        refine (ScText_calls w1.heap.size x 1125899906842624 _ hX (by omega) hm0 hm1).mono ?_; rintro e w3 ⟨rfl, hX3, hu3⟩
        have hY3 := RfAt.grown hY hu3 (by simp)
        have hE3 := hE.upd hu3 e1.size
        go_wp2_with fail
        refine (rfText_calls (w1.heap.size + 1) s x 1125899906842624 _ hY3 (by omega) hm0 hm1).mono ?_; rintro e w4 ⟨rfl, hY4, hu4⟩
        have hX4 : ScAt w4 _ _ := Blk.grown hX3 hu4 (by simp)
        have hE4 := hE3.upd hu4 (by have := e1.size; omega)
        have hb := Oct.text_left_le x 1125899906842624
        clear hu3 hu4 hX3 hY3 hE3 hX hY hE
        generalize (x.text 1125899906842624).2 = x' at hX4 hY4 hb
        go_wp2_with fail
        replace hb : x'.left.length ≤ 400 := Nat.le_trans hb hxl
        have hsn : ((!x'.spoil) == x'.spoil) = false := by cases x'.spoil <;> rfl
        obtain ⟨m4, hm4, hB4, _⟩ := id hY4
        have c2 : w4.cell? ⟨w1.heap.size + 1, 2, none⟩ = some (.bool x'.spoil) := Blk.cell hB4 2
        go_quiet (first
          | (go_at_call 43; exact quiet_eq (Left_calls _ x' _ (Blk.drewN hX4 _) (by omega)))
          | (go_at_call 44; exact Calls.quiet_of (rfLeft_calls _ s x' _ (hY4.drewN _) (by omega)))
          | (go_at_call 26; exact quiet_eq (Sound_calls _ x' _ (Blk.drewN hX4 _)))
          | (go_at_call 27; exact quiet_eq (End_calls _ x' _ (Blk.drewN hX4 _)))
          | (go_at_call 45; exact Calls.quiet_of (rfEnd_calls _ s x' _ (hY4.drewN _) (by omega))))
        go_wp2_with fail
        go_roundw
        case rel => exact ⟨j + 1, x', by omega, by omega, by go_num, Blk.drewN hX4 _, hY4.drewN _, hb, hE4.drewN _⟩
        case measure => simp [intOf]; omega
      · go_wp2_with fail
        refine (ScText_calls w1.heap.size x most _ hX (by omega) hm0 hm1).mono ?_; rintro e w3 ⟨rfl, hX3, hu3⟩
        have hY3 := RfAt.grown hY hu3 (by simp)
        have hE3 := hE.upd hu3 e1.size
        go_wp2_with fail
        refine (rfText_calls (w1.heap.size + 1) s x most _ hY3 (by omega) hm0 hm1).mono ?_; rintro e w4 ⟨rfl, hY4, hu4⟩
        have hX4 : ScAt w4 _ _ := Blk.grown hX3 hu4 (by simp)
        have hE4 := hE3.upd hu4 (by have := e1.size; omega)
        have hb := Oct.text_left_le x most
        clear hu3 hu4 hX3 hY3 hE3 hX hY hE
        generalize (x.text most).2 = x' at hX4 hY4 hb
        go_wp2_with fail
        replace hb : x'.left.length ≤ 400 := Nat.le_trans hb hxl
        have hsn : ((!x'.spoil) == x'.spoil) = false := by cases x'.spoil <;> rfl
        obtain ⟨m4, hm4, hB4, _⟩ := id hY4
        have c2 : w4.cell? ⟨w1.heap.size + 1, 2, none⟩ = some (.bool x'.spoil) := Blk.cell hB4 2
        go_quiet (first
          | (go_at_call 43; exact quiet_eq (Left_calls _ x' _ (Blk.drewN hX4 _) (by omega)))
          | (go_at_call 44; exact Calls.quiet_of (rfLeft_calls _ s x' _ (hY4.drewN _) (by omega)))
          | (go_at_call 26; exact quiet_eq (Sound_calls _ x' _ (Blk.drewN hX4 _)))
          | (go_at_call 27; exact quiet_eq (End_calls _ x' _ (Blk.drewN hX4 _)))
          | (go_at_call 45; exact Calls.quiet_of (rfEnd_calls _ s x' _ (hY4.drewN _) (by omega))))
        go_wp2_with fail
        go_roundw
        case rel => exact ⟨j + 1, x', by omega, by omega, by go_num, Blk.drewN hX4 _, hY4.drewN _, hb, hE4.drewN _⟩
        case measure => simp [intOf]; omega
      · go_wp2_with fail
        refine (ScList_calls w1.heap.size x 1125899906842624 _ hX (by omega) hm0 hm1).mono ?_; rintro e w3 ⟨hX3, ⟨A3, c3, rfl, hr3⟩, hu3⟩
        have hY3 := RfAt.grown hY hu3 (by simp)
        have hE3 := hE.upd hu3 e1.size
        have hlc := list_count x 1125899906842624
        go_wp2_with fail
        refine (rfList_calls (w1.heap.size + 1) s x 1125899906842624 _ hY3 (by omega) (by omega) hm0 hm1).mono ?_; rintro e w4 ⟨hY4, ⟨A4, c4, rfl, hr4⟩, hu4⟩
        have hX4 : ScAt w4 _ _ := Blk.grown hX3 hu4 (by simp)
        have hE4 := hE3.upd hu4 (by have := e1.size; omega)
        have hr3' : Fr w4 wr.heap.size A3 _ := Fr.kept hr3 (Keep.of_upd (S := fun k => k ≠ w1.heap.size + 1) hu4 (by simp)) (fun k hk => by have := hY.lt; omega)
        go_wp2_with fail
        (with_reducible refine (Same01_calls w4.heap.size A3 A4 c3 c4 _ _ _ (hr3'.rd) (hr4.rd) (Nat.le_refl _) (by omega) (by omega)).mono ?_); rintro e w5 ⟨rfl, h5⟩
        replace hX4 : ScAt w5 _ _ := Blk.below hX4 h5 hX4.lt
        replace hY4 := hY4.ext h5
        replace hE4 := hE4.trans h5
        clear hr3 hr3' hr4 h5
        have hb := Oct.list_left_le x 1125899906842624
        clear hu3 hu4 hX3 hY3 hE3 hX hY hE
        generalize (x.list 1125899906842624).2 = x' at hX4 hY4 hb
        go_wp2_with fail
        replace hb : x'.left.length ≤ 400 := Nat.le_trans hb hxl
        have hsn : ((!x'.spoil) == x'.spoil) = false := by cases x'.spoil <;> rfl
        obtain ⟨m4, hm4, hB4, _⟩ := id hY4
        have c2 : w5.cell? ⟨w1.heap.size + 1, 2, none⟩ = some (.bool x'.spoil) := Blk.cell hB4 2
        go_quiet (first
          | (go_at_call 43; exact quiet_eq (Left_calls _ x' _ (Blk.drewN hX4 _) (by omega)))
          | (go_at_call 44; exact Calls.quiet_of (rfLeft_calls _ s x' _ (hY4.drewN _) (by omega)))
          | (go_at_call 26; exact quiet_eq (Sound_calls _ x' _ (Blk.drewN hX4 _)))
          | (go_at_call 27; exact quiet_eq (End_calls _ x' _ (Blk.drewN hX4 _)))
          | (go_at_call 45; exact Calls.quiet_of (rfEnd_calls _ s x' _ (hY4.drewN _) (by omega))))
        go_wp2_with fail
        go_roundw
        case rel => exact ⟨j + 1, x', by omega, by omega, by go_num, Blk.drewN hX4 _, hY4.drewN _, hb, hE4.drewN _⟩
        case measure => simp [intOf]; omega
      · go_wp2_with fail
        refine (ScList_calls w1.heap.size x most _ hX (by omega) hm0 hm1).mono ?_; rintro e w3 ⟨hX3, ⟨A3, c3, rfl, hr3⟩, hu3⟩
        have hY3 := RfAt.grown hY hu3 (by simp)
        have hE3 := hE.upd hu3 e1.size
        have hlc := list_count x most
        go_wp2_with fail
        refine (rfList_calls (w1.heap.size + 1) s x most _ hY3 (by omega) (by omega) hm0 hm1).mono ?_; rintro e w4 ⟨hY4, ⟨A4, c4, rfl, hr4⟩, hu4⟩
        have hX4 : ScAt w4 _ _ := Blk.grown hX3 hu4 (by simp)
        have hE4 := hE3.upd hu4 (by have := e1.size; omega)
        have hr3' : Fr w4 wr.heap.size A3 _ := Fr.kept hr3 (Keep.of_upd (S := fun k => k ≠ w1.heap.size + 1) hu4 (by simp)) (fun k hk => by have := hY.lt; omega)
        go_wp2_with fail
        (with_reducible refine (Same01_calls w4.heap.size A3 A4 c3 c4 _ _ _ (hr3'.rd) (hr4.rd) (Nat.le_refl _) (by omega) (by omega)).mono ?_); rintro e w5 ⟨rfl, h5⟩
        replace hX4 : ScAt w5 _ _ := Blk.below hX4 h5 hX4.lt
        replace hY4 := hY4.ext h5
        replace hE4 := hE4.trans h5
        clear hr3 hr3' hr4 h5
        have hb := Oct.list_left_le x most
        clear hu3 hu4 hX3 hY3 hE3 hX hY hE
        generalize (x.list most).2 = x' at hX4 hY4 hb
        go_wp2_with fail
        replace hb : x'.left.length ≤ 400 := Nat.le_trans hb hxl
        have hsn : ((!x'.spoil) == x'.spoil) = false := by cases x'.spoil <;> rfl
        obtain ⟨m4, hm4, hB4, _⟩ := id hY4
        have c2 : w5.cell? ⟨w1.heap.size + 1, 2, none⟩ = some (.bool x'.spoil) := Blk.cell hB4 2
        go_quiet (first
          | (go_at_call 43; exact quiet_eq (Left_calls _ x' _ (Blk.drewN hX4 _) (by omega)))
          | (go_at_call 44; exact Calls.quiet_of (rfLeft_calls _ s x' _ (hY4.drewN _) (by omega)))
          | (go_at_call 26; exact quiet_eq (Sound_calls _ x' _ (Blk.drewN hX4 _)))
          | (go_at_call 27; exact quiet_eq (End_calls _ x' _ (Blk.drewN hX4 _)))
          | (go_at_call 45; exact Calls.quiet_of (rfEnd_calls _ s x' _ (hY4.drewN _) (by omega))))
        go_wp2_with fail
        go_roundw
        case rel => exact ⟨j + 1, x', by omega, by omega, by go_num, Blk.drewN hX4 _, hY4.drewN _, hb, hE4.drewN _⟩
        case measure => simp [intOf]; omega
    · rcases (show (¬ j < l.length) ∨ (j < l.length ∧ ¬ j < 40) from by omega) with hn | ⟨hp, hn⟩
      all_goals
        go_wp2_with fail
        go_ret
        exact ⟨rfl, hE⟩

set_option maxRecDepth 100000 in
theorem lifted (os : Os) (started : os.Started) (H : Type) (enc : TypeId × Value → H) :
    ReturnsInHanded {} Try.checked os 9 .any (Rows.octetReadsSpec.pre6 enc Try.prog Try.f9 Rows.octetReadsRow.domain false) (Rows.octetReadsSpec.post enc Try.prog Try.f9 false true false false) := by
  refine returnsInHanded_of_change (C := Try.checked) own_ started (by kernel_rfl) Try.func9
    (ChangeSpec.witness6 (enc := enc) (C := Try.checked) false ⟨#[], #[.string .empty, .slice none 0 0], []⟩ 8 (by kernel_rfl) (by kernel_rfl) (by kernel_rfl) (by kernel_rfl)) ?_
  intro W base args ds gs before hval0 hW hcnd _
  have hval : ∀ (j : Nat) t v, Try.f9.params[j]? = some t → args[j]? = some v → Value.okWide Try.prog W .any base t v := hval0
  have hW' := hW
  obtain ⟨p, q, hA0, hV, rfl, hfz, hnd⟩ := hW
  have hA : DataW.TrodAll enc Try.prog W 0 (fun _ => true) true Try.f9.params.toList args.toList ds p := hA0
  rw [Try.params9] at hA hval
  obtain ⟨v0, vs0, d0, ds0, p0, q0, hargs, rfl, rfl, hx0, r0⟩ := trodAll_cons hA
  obtain ⟨v1, vs1, d1, ds1, p1, q1, rfl, rfl, rfl, hx1, r1⟩ := trodAll_cons r0
  obtain ⟨rfl, rfl, rfl⟩ := trodAll_nil r1
  obtain rfl : args = #[v0, v1] := by cases args; simp_all
  obtain ⟨rfl, rfl⟩ := trodVars_none hV
  obtain ⟨s, rfl, hs⟩ := op_str (hval 0 9 v0 rfl rfl) (tr_of hx0)
  obtain ⟨Al, cl, l, rfl, hlr, hlc, hlm, hlw⟩ := op_ints (hval 1 52 v1 rfl rfl) (tr_of hx1)
  refine (walk s l W.heap.size Al cl hs W (Nat.le_refl _) hlr (by omega) hlw).mono fun e W' ⟨he, hg⟩ => ?_
  subst he
  exact ⟨_, rfl, law_post hW' rfl rfl (by kernel_rfl) rfl rfl rfl hg⟩

theorem over : Rows.octetReadsRow.holds Try.pinned (OpenSpec.ofChange Rows.octetReadsSpec) :=
  OpenClaim.holds_of_wide 9 Try.f9 rfl rfl rfl rfl rfl rfl rfl ⟨rfl, rfl, rfl, rfl, rfl⟩ rfl rfl rfl rfl rfl (by kernel_rfl) Try.func9 (by kernel_rfl)
    (of_decide_eq_true (by kernel_rfl)) (by unfold Func.isWrapper; first | (rw [if_pos (by decide +kernel)]; kernel_rfl) | (rw [if_neg (by decide +kernel)]; exact ⟨rfl, rfl⟩))
    (fun os started H enc _ => lifted os started H enc)

theorem proved : Rows.OctetReadsSaid := over

end Go.Proofs.Ytnpmojfjoemelaa.octetReads
