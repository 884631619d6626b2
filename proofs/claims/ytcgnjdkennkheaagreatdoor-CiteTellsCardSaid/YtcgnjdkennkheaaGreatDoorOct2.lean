/-
  The walks of layer 1 (octet), the scanner's methods.
-/
import Derived.Test.YtcgnjdkennkheaaGreatDoorOct
import Derived.Deep.RegionHeld3
import Derived.Deep.RegionLaw
import Derived.Deep.AppendLies
set_option linter.unusedVariables false
set_option maxRecDepth 100000
set_option linter.unusedSimpArgs false
namespace Go.Proofs.YtcgnjdkennkheaaGreatDoor
open Go.RowKit
attribute [local go_sem] bs_size bs_toList2 bs_append bs_extract_end bs_extract_begin bs_get wrap64_b

set_option maxHeartbeats 400000 in
theorem Read_calls (s : List UInt8) (w : World) :
    Calls Tryz.prog 37 #[.string (bs s)] w fun e w' => e = .returned (.pointer (some ⟨w.heap.size, 0, none⟩)) ∧ w' = w.alloc (.cells #[.string (bs s), .bool false] 112) := by
  go_enter Tryz.func37, Tryz.ntmps37
  go_wp2
  go_ret
  exact ⟨rfl, rfl⟩

theorem Read_at (s : List UInt8) (w : World) : ScAt (w.alloc (.cells #[.string (bs s), .bool false] 112)) w.heap.size ⟨s, false⟩ := Blk.new _ _ _

set_option maxHeartbeats 400000 in
theorem Sound_calls (g : Nat) (x : Oct.Sc) (w : World) (h : ScAt w g x) :
    Calls Tryz.prog 79 #[.pointer (some ⟨g, 0, none⟩)] w fun e w' => e = .returned (.bool (!x.spoil)) ∧ w = w' := by
  have c1 : w.cell? ⟨g, 1, none⟩ = some (.bool x.spoil) := Blk.cell h 1
  go_enter Tryz.func79, Tryz.ntmps79
  go_wp2
  go_ret
  exact ⟨rfl, rfl⟩

set_option maxHeartbeats 400000 in
theorem End_calls (g : Nat) (x : Oct.Sc) (w : World) (h : ScAt w g x) :
    Calls Tryz.prog 44 #[.pointer (some ⟨g, 0, none⟩)] w fun e w' => e = .returned (.int .i64 x.endE) ∧ w = w' := by
  obtain ⟨l, sp⟩ := x
  have c0 : w.cell? ⟨g, 0, none⟩ = some (.string (bs l)) := Blk.cell h 0
  have hs := Sound_calls g _ _ h
  have HS := Lib.hid hs
  clear hs
  cases sp <;> rcases l with _ | ⟨c, l⟩
  all_goals
    go_enter Tryz.func44, Tryz.ntmps44
    go_wp2_with (go_at_call 79; refine HS.out.mono ?_; rintro e w' ⟨rfl, rfl⟩)
    go_ret
    exact ⟨rfl, rfl⟩

set_option maxHeartbeats 400000 in
theorem Num_calls (g : Nat) (x : Oct.Sc) (most : Int) (w : World) (h : ScAt w g x) (hl : x.left.length ≤ 9223372036854775807) (hm0 : -9223372036854775808 ≤ most) (hm1 : most ≤ 9223372036854775807) :
    Calls Tryz.prog 42 #[.pointer (some ⟨g, 0, none⟩), .int .i64 most] w fun e w' => e = .returned (.int .i64 (x.num most).1) ∧ ScAt w' g (x.num most).2 ∧ Upd g w w' := by
  have hll := Oct.long_left_le x
  have hlt := Oct.long_lt x
  have HL := Long_calls g x w h hl
  replace HL := Lib.hid HL
  by_cases hneg : most < 0
  · have e1 : x.num most = (0, x.long.2.bad) := by simp [Oct.Sc.num, hneg]
    rw [e1]; clear e1
    go_enter Tryz.func42, Tryz.ntmps42
    go_wp2_with fail
    refine HL.out.mono ?_; rintro e w1 ⟨rfl, h1, hu1⟩
    go_wp2_with fail
    (with_reducible refine (take_to g _ (-1) _ _ _ _ (take_bad _) h1 (by omega) (by omega) (by omega)).mono ?_); rintro e w2 ⟨rfl, h2, hu2⟩
    go_wp2_with fail
    go_ret
    exact ⟨rfl, h2, hu1.trans hu2⟩
  · by_cases hbig : most < (x.long.1 : Int)
    · have e1 : x.num most = (0, x.long.2.bad) := by simp [Oct.Sc.num, hbig]
      rw [e1]; clear e1
      go_enter Tryz.func42, Tryz.ntmps42
      go_wp2_with fail
      refine HL.out.mono ?_; rintro e w1 ⟨rfl, h1, hu1⟩
      go_wp2_with fail
      (with_reducible refine (take_to g _ (-1) _ _ _ _ (take_bad _) h1 (by omega) (by omega) (by omega)).mono ?_); rintro e w2 ⟨rfl, h2, hu2⟩
      go_wp2_with fail
      go_ret
      exact ⟨rfl, h2, hu1.trans hu2⟩
    · have e1 : x.num most = ((x.long.1 : Int), x.long.2) := by simp [Oct.Sc.num, hneg, hbig]
      rw [e1]; clear e1
      go_enter Tryz.func42, Tryz.ntmps42
      go_wp2_with fail
      refine HL.out.mono ?_; rintro e w1 ⟨rfl, h1, hu1⟩
      go_wp2_with fail
      go_ret
      exact ⟨rfl, h1, hu1⟩

set_option maxHeartbeats 400000 in
theorem ScText_calls (g : Nat) (x : Oct.Sc) (most : Int) (w : World) (h : ScAt w g x) (hl : x.left.length ≤ 9223372036854775807) (hm0 : -9223372036854775808 ≤ most) (hm1 : most ≤ 9223372036854775807) :
    Calls Tryz.prog 41 #[.pointer (some ⟨g, 0, none⟩), .int .i64 most] w fun e w' => e = .returned (.string (bs (x.text most).1)) ∧ ScAt w' g (x.text most).2 ∧ Upd g w w' := by
  have hll := Oct.num_left_le x most
  have hnn := Oct.num_nonneg x most
  have hnl := Oct.num_lt x most hm1
  have HL := Num_calls g x most w h hl hm0 hm1
  replace HL := Lib.hid HL
  cases hsp : (x.num most).2.spoil
  · have e1 : x.text most = (((x.num most).2.take (x.num most).1).1, ((x.num most).2.take (x.num most).1).2.2) := by simp [Oct.Sc.text, hsp]
    rw [e1]; clear e1
    have HSP := Lib.hid hsp
    clear hsp
    go_enter Tryz.func41, Tryz.ntmps41
    go_wp2_with fail
    refine HL.out.mono ?_; rintro e w1 ⟨rfl, h1, hu1⟩
    go_wp2_with fail
    refine (Sound_calls g _ _ h1).mono ?_; rintro e w1 ⟨rfl, rfl⟩
    rw [HSP.out]
    go_wp2_with fail
    (with_reducible refine (take_calls g _ _ _ h1 (by omega) (by omega) (by omega)).mono ?_); rintro e w2 ⟨rfl, h2, hu2⟩
    go_wp2_with fail
    go_ret
    exact ⟨rfl, h2, hu1.trans hu2⟩
  · have e1 : x.text most = ([], (x.num most).2) := by simp [Oct.Sc.text, hsp]
    rw [e1]; clear e1
    have HSP := Lib.hid hsp
    clear hsp
    go_enter Tryz.func41, Tryz.ntmps41
    go_wp2_with fail
    refine HL.out.mono ?_; rintro e w1 ⟨rfl, h1, hu1⟩
    go_wp2_with fail
    refine (Sound_calls g _ _ h1).mono ?_; rintro e w1 ⟨rfl, rfl⟩
    rw [HSP.out]
    go_wp2_with fail
    go_ret
    exact ⟨rfl, h1, hu1⟩


/-! ### Writing texts and lists -/
set_option maxHeartbeats 400000 in
theorem Text_calls (s : List UInt8) (w : World) (hs : s.length ≤ 140737488355328) :
    Calls Tryz.prog 34 #[.string (bs s)] w fun e w' => e = .returned (.string (bs (Oct.text s))) ∧ Ext w w' := by
  have hp := Oct.put_length s.length
  have hn := Oct.need_le s.length
  have HP := Lib.hid hp
  have hpl : (Oct.put s.length).length ≤ 9 := by omega
  clear hp hn
  go_enter Tryz.func34, Tryz.ntmps34
  go_wp2_with fail
  refine (Put_calls _ _ (by omega) (by omega)).mono ?_; rintro e w1 ⟨rfl, h1⟩
  rw [Int.toNat_natCast]
  go_wp2_with fail
  go_ret
  exact ⟨rfl, h1⟩

set_option maxHeartbeats 1000000 in
theorem List_calls (B : Nat) (A : Option Addr) (cap : Nat) (l : List (List UInt8)) (w : World) (h : Rd w B A (l.map strV)) (hB : B ≤ w.heap.size) (hlen : (Oct.list l).length ≤ 140737488355328) :
    Calls Tryz.prog 76 #[.slice A l.length cap] w fun e w' => e = .returned (.string (bs (Oct.list l))) ∧ Ext w w' := by
  have hll : l.length ≤ 140737488355328 := Nat.le_trans (Oct.list_length_ge l) hlen
  have hle := Oct.lists_le l.length l
  have hle' : ∀ k, (Oct.lists l.length l k).length ≤ 140737488355328 := fun k => Nat.le_trans (hle k) hlen
  have hb0 := Lib.fresh_isBuilder 134 5 w
  have hput := hle' 0
  rw [Oct.lists_zero] at hput
  clear hle
  go_enter Tryz.func76, Tryz.ntmps76
  go_wp2_with fail
  refine (Put_calls _ _ (by omega) (by omega)).mono ?_; rintro e w1 ⟨rfl, h1⟩
  rw [Int.toNat_natCast]
  go_wp2_with fail
  refine (WriteString_calls w.heap.size w.heap.size [] (bs (Oct.put l.length)) w1 (builder_ext hb0 h1) (by simp [bs_size]; omega) (by have := h1.size; simp at this; omega)).mono ?_
  rintro e w2 ⟨rfl, hb2, hB2⟩
  rw [List.nil_append, strCells_bs, ← Oct.lists_zero l.length l] at hb2
  have hE2 : Ext w w2 := Below.trans (((Ext.refl w).alloc _).trans h1) hB2
  clear hb0 h1 hB2
  go_wp2_with fail
  go_loopw [13] (fun v wr => ∃ k : Nat, k ≤ l.length ∧ v = .int .i64 k ∧ Lib.BuilderAt 134 5 w.heap.size w.heap.size (.pointer (some ⟨w.heap.size, 0, none⟩)) (Lib.byteCells (Oct.lists l.length l k)) wr ∧ Ext w wr) (fun v _ => l.length - (intOf v).toNat)
  case atStart => exact ⟨0, Nat.zero_le _, rfl, hb2, hE2⟩
  case round =>
    clear hb2 hE2
    obtain ⟨k, hk, rfl, hbr, hE⟩ := hrel
    by_cases hlt : k < l.length
    · have hR := h.below hE hB
      obtain ⟨b, off, rfl, hbB, hc⟩ := hR (by intro e; simp at e; simp [e] at hlt)
      have hck : wr.cell? ⟨b, off + k, none⟩ = some (.string (bs l[k])) := hc k _ (by rw [List.getElem?_map, List.getElem?_eq_getElem hlt]; rfl)
      have hls := hle' (k + 1)
      have hsuc := Oct.lists_succ l.length l k hlt
      have HS := Lib.hid hsuc
      have htl : (Oct.text l[k]).length ≤ 140737488355328 := by rw [hsuc, List.length_append] at hls; omega
      have hsl := Oct.text_length_ge l[k]
      have hls2 : (Oct.lists l.length l k).length + (Oct.text l[k]).length ≤ 140737488355328 := by rw [hsuc, List.length_append] at hls; omega
      clear hc hsuc hls
      go_wp2_with fail
      refine (Text_calls _ _ (by omega)).mono ?_; rintro e w3 ⟨rfl, h3⟩
      go_wp2_with fail
      refine (WriteString_calls w.heap.size w.heap.size _ (bs (Oct.text l[k])) w3 (builder_ext (.inr hbr) h3) (by rw [byteCells_length, bs_size]; omega) (Nat.le_trans hE.size h3.size)).mono ?_
      rintro e w4 ⟨rfl, hb4, hB4⟩
      rw [strCells_bs, ← byteCells_append, ← HS.out] at hb4
      have hE4 : Ext w w4 := Below.trans (hE.trans h3) hB4
      go_wp2_with fail
      go_roundw
      case rel => exact ⟨k + 1, by omega, by go_num, hb4, hE4⟩
      case measure => simp [intOf]; omega
    · have hall := Oct.lists_all l k (by omega)
      rw [hall] at hbr
      go_wp2_with fail
      refine (String_calls w.heap.size w.heap.size _ wr (.inr hbr) hE.size).mono ?_
      rintro e w5 ⟨rfl, hB5⟩
      go_wp2_with fail
      go_ret
      exact ⟨rfl, Below.trans hE hB5⟩


/-! ### Reading lists -/
theorem info_str : (Tryz.prog.info? 9).map (fun i => (i.zero, i.size, i.bytes)) = some (some (.string .empty), 1, 16) := by kernel_rfl

set_option maxRecDepth 100000 in
set_option maxHeartbeats 1000000 in
theorem next_calls (base g bo bx n : Nat) (x : Oct.Sc) (ov : Value) (xs : List Value) (w : World) (h : ScAt w g x) (hl : x.left.length ≤ 9223372036854775807)
    (ho : Blk w bo 85 #[ov]) (hx : Blk w bx 83 #[.pointer (some ⟨g, 0, none⟩)]) (hown : w.ownsRow base 9 1 ov n xs) (hbase : base ≤ w.heap.size) (hbo : base ≤ bo) (hn : n ≤ 1099511627776) :
    Calls Tryz.prog 78 #[.pointer (some ⟨bo, 0, none⟩), .pointer (some ⟨bx, 0, none⟩)] w fun e w' => e = .returned (.bool (!(x.text 16777216).2.spoil)) ∧ ScAt w' g (x.text 16777216).2 ∧
      Blk w' bx 83 #[.pointer (some ⟨g, 0, none⟩)] ∧ (∃ v', Blk w' bo 85 #[v'] ∧ w'.ownsRow base 9 1 v' (n + 1) (xs ++ [strV (x.text 16777216).1])) ∧ Keep (fun k => k < base ∧ k ≠ g) w w' := by
  obtain ⟨i0, hi, hz0, hz1, hz2⟩ := info_parts info_str
  have c0 : w.cell? ⟨bo, 0, none⟩ = some ov := Blk.cell ho 0
  have c1 : w.cell? ⟨bx, 0, none⟩ = some (.pointer (some ⟨g, 0, none⟩)) := Blk.cell hx 0
  have hgo : g ≠ bo := Blk.diff h ho (by decide)
  have hgx : g ≠ bx := Blk.diff h hx (by decide)
  have hxo : bx ≠ bo := Blk.diff hx ho (by decide)
  go_enter Tryz.func78, Tryz.ntmps78
  go_wp2_with fail
  go_region_law
    (first
      | (refine step_append_lies _ (by rfl) _ _ _ (by rfl) base 9 i0 _ 1 16 Tryz.underlying85 hi hz0 hz1 hz2 rfl (by omega) ov n xs (by rfl) (hown1.alloc _) ⟨w1.heap.size, 0, none⟩ 1 1 [strV (x.text 16777216).1] (by rfl) (by rfl) (World.news_of_block (cs := #[strV (x.text 16777216).1]) (t := 9) (fr := (0, 0)) (heap_alloc_new w1 _)) (by intro u hu; simp at hu; subst hu; rfl) (by omega) (by unfold maxLen; omega) (by omega) (by have := hu1.size; simp at this ⊢; omega) (w1.heap.size + 1) (by simp) ?_; intro gg cap w2 hown2 hgrow hat hlt; have hne2 := own_blk_ne hown1 ho1 (by decide); have ho2 := Blk.grown (Blk.alloc ho1 _) hgrow (Ne.symm hne2); have hx2 := Blk.grown (Blk.alloc hx1 _) hgrow (Ne.symm (own_blk_ne hown1 hx1 (by decide))); have fo2 := ho2.frozen 0; have co2 := Blk.cell ho2 0)
      | (go_simp; go_at_call 41; refine (ScText_calls g x 16777216 _ (Blk.drew h) hl (by omega) (by omega)).mono ?_; rintro e w1 ⟨rfl, h1, hu1⟩; have ho1 := Blk.grown (Blk.drew ho) hu1 (by simpa using hgo.symm); have hx1 := Blk.grown (Blk.drew hx) hu1 (by simpa using hgx.symm); have hown1 := World.ownsRow.kept hown.drew hu1 (.inr (own_blk_ne hown h (by decide))); have co1 := Blk.cell ho1 0; have cx1 := Blk.cell hx1 0; have lo1 := Blk.lt ho1; have lx1 := Blk.lt hx1))
  all_goals
    have hS2 : ScAt (w2.setCell ⟨bo, 0, none⟩ (.slice (some ⟨gg, 0, none⟩) (n + 1) cap)) g (x.text 16777216).2 := Blk.far (Blk.grown (Blk.alloc h1 _) hgrow (Ne.symm (own_blk_ne hown1 h1 (by decide)))) (p := ⟨bo, 0, none⟩) hgo _
    have hx3 := Blk.far hx2 (p := ⟨bo, 0, none⟩) hxo (.slice (some ⟨gg, 0, none⟩) (n + 1) cap)
    have cx3 : (w2.setCell ⟨bo, 0, none⟩ (.slice (some ⟨gg, 0, none⟩) (n + 1) cap)).cell? ⟨bx, 0, none⟩ = some (.pointer (some ⟨g, 0, none⟩)) := Blk.cell hx3 0
    have ho3 := Blk.set_ ho2 0 (.slice (some ⟨gg, 0, none⟩) (n + 1) cap)
    have hw3 := World.ownsRow.kept hown2 (row := some bo) (w' := w2.setCell ⟨bo, 0, none⟩ (.slice (some ⟨gg, 0, none⟩) (n + 1) cap)) ((Upd.refl bo w2).setCell (.inl rfl) _) (.inr (own_blk_ne hown2 ho2 (by decide)))
    have hK : Keep (fun k => k < base ∧ k ≠ g) w (w2.setCell ⟨bo, 0, none⟩ (.slice (some ⟨gg, 0, none⟩) (n + 1) cap)) :=
      (((Keep.refl _ _).drew.trans (.of_upd hu1 (by simp))).alloc _).trans (.of_grown hgrow (fun i hi => by have := hown1.lt i hi; simp only [not_and]; omega)) |>.setCell (by simp; omega) _
    clear c0 c1 co1 cx1 fo2 co2 hgrow hown1 hown2 ho2 hx2
    go_wp2_with fail
    refine (Sound_calls g _ _ hS2).mono ?_; rintro e w4 ⟨rfl, rfl⟩
    go_wp2_with fail
    go_ret
    exact ⟨rfl, hS2, hx3, ⟨_, ho3, hw3⟩, hK⟩


set_option maxRecDepth 100000 in
set_option maxHeartbeats 2000000 in
theorem ScList_calls (g : Nat) (x : Oct.Sc) (most : Int) (w : World) (h : ScAt w g x) (hl : x.left.length ≤ 1099511627776) (hm0 : -9223372036854775808 ≤ most) (hm1 : most ≤ 9223372036854775807) :
    Calls Tryz.prog 39 #[.pointer (some ⟨g, 0, none⟩), .int .i64 most] w fun e w' => ScAt w' g (x.list most).2 ∧ (∃ A c, e = .returned (.slice A (x.list most).1.length c) ∧ Fr w' w.heap.size A ((x.list most).1.map strV)) ∧ Upd g w w' := by
  have hnl := Oct.num_left_le x most
  have hn0 := Oct.num_nonneg x most
  have hn1 := Oct.num_lt x most hm1
  have hgw := Blk.lt h
  obtain ⟨n, hn⟩ := Int.eq_ofNat_of_zero_le hn0
  have hbase : ScAt (w.alloc (.cells #[.pointer (some ⟨g, 0, none⟩)] 83)) g x := Blk.alloc h _
  have hlist : x.list most = if ((x.num most).2.texts n).2.spoil then ([], ((x.num most).2.texts n).2) else (x.num most).2.texts n := by
    unfold Oct.Sc.list
    rw [hn, Int.toNat_natCast]
  have HN := Num_calls g x most _ hbase (by omega) hm0 hm1
  rw [hn] at HN hn0 hn1
  generalize hx1 : (x.num most).2 = x1 at *
  replace HN := Lib.hid HN
  have HLI := Lib.hid hlist
  clear hlist hx1 hn
  go_enter Tryz.func39, Tryz.ntmps39
  go_wp2
  go_step3
  go_wp2_with fail
  refine HN.out.mono ?_; rintro e w1 ⟨rfl, h1, hu1⟩
  go_wp2_with fail
  go_step3
  go_wp2_with fail
  have hbx1 : Blk w1 w.heap.size 83 #[.pointer (some ⟨g, 0, none⟩)] := Blk.grown (Blk.new _ _ _) hu1 (by simp; omega)
  have hK1 : Keep (fun k => k < w.heap.size ∧ k ≠ g) w w1 := ((Keep.refl _ _).alloc _).trans (.of_upd hu1 (by simp))
  have hs1 : w.heap.size < w1.heap.size := by have := hu1.size; simp at this; omega
  go_loopw [13] (fun v wr => ∃ (k : Nat) (xk : Oct.Sc) (acc : List (List UInt8)) (ov : Value), k ≤ n ∧ v = .int .i64 k ∧ acc.length = k ∧ Hid (x1.texts n = (acc ++ (xk.texts (n - k)).1, (xk.texts (n - k)).2)) ∧ k + xk.left.length ≤ x1.left.length ∧
      ScAt wr g xk ∧ Blk wr w.heap.size 83 #[.pointer (some ⟨g, 0, none⟩)] ∧ Blk wr w1.heap.size 85 #[ov] ∧ wr.ownsRow w.heap.size 9 1 ov acc.length (acc.map strV) ∧ w.heap.size ≤ wr.heap.size ∧ Keep (fun k => k < w.heap.size ∧ k ≠ g) w wr) (fun v _ => n - (intOf v).toNat)
  case atStart => exact ⟨0, x1, [], .slice none 0 0, Nat.zero_le _, rfl, rfl, by simp [Hid], by omega, Blk.alloc h1 _, Blk.alloc hbx1 _, Blk.new _ _ _, World.ownsRow_nil _ _ _ _, by simp; omega, hK1.alloc _⟩
  case round =>
    clear hbx1 hK1 h1 hu1
    obtain ⟨k, xk, acc, ov, hk, rfl, rfl, HT, hcnt, hS, hX, hO, hown, hsz, hK⟩ := hrel
    have hcx : wr.cell? ⟨w.heap.size, 0, none⟩ = some (.pointer (some ⟨g, 0, none⟩)) := Blk.cell hX 0
    by_cases hlt : acc.length < n
    · have hnx := next_calls w.heap.size g w1.heap.size w.heap.size acc.length xk ov (acc.map strV) wr hS (by omega) hO hX hown hsz (by omega) (by omega)
      have HNX := Lib.hid hnx
      clear hnx
      obtain ⟨m, hm⟩ : ∃ m, n - acc.length = m + 1 := ⟨n - acc.length - 1, by omega⟩
      have hm' : n - (acc.length + 1) = m := by omega
      have HM := Lib.hid hm
      have HM' := Lib.hid hm'
      clear hm hm'
      cases hsp : (xk.text 16777216).2.spoil
      · have hT' : Hid (x1.texts n = ((acc ++ [(xk.text 16777216).1]) ++ ((xk.text 16777216).2.texts (n - (acc.length + 1))).1, ((xk.text 16777216).2.texts (n - (acc.length + 1))).2)) := by
          unfold Hid
          rw [HT.out, HM.out, HM'.out, Oct.texts_go _ _ hsp]
          simp
        have hts := (Oct.text_sound _ _ hsp).2
        have HSP := Lib.hid hsp
        clear hsp
        go_wp2_with fail
        refine HNX.out.mono ?_
        rintro e w3 ⟨rfl, hS3, hX3, ⟨ov3, hO3, hown3⟩, hK3⟩
        rw [HSP.out]
        go_wp2_with fail
        go_roundw
        case rel =>
          refine ⟨acc.length + 1, (xk.text 16777216).2, acc ++ [(xk.text 16777216).1], ov3, by omega, by go_num, by simp, hT', by omega, hS3, hX3, hO3, ?_, Nat.le_trans hsz hK3.size, hK.trans hK3⟩
          have : (acc ++ [(xk.text 16777216).1]).length = acc.length + 1 := by simp
          rw [this, List.map_append]
          exact hown3
        case measure => simp [intOf]; omega
      · have hT' : x1.texts n = (acc, (xk.text 16777216).2) := by
          rw [HT.out, HM.out, Oct.texts_stop _ _ hsp]
          simp
        have hli : x.list most = ([], (xk.text 16777216).2) := by
          rw [HLI.out, hT']
          simp [hsp]
        have HLI2 := Lib.hid hli
        have HSP := Lib.hid hsp
        clear hsp hli hT'
        go_wp2_with fail
        refine HNX.out.mono ?_
        rintro e w3 ⟨rfl, hS3, hX3, ⟨ov3, hO3, hown3⟩, hK3⟩
        rw [HSP.out]
        have hcx3 : w3.cell? ⟨w.heap.size, 0, none⟩ = some (.pointer (some ⟨g, 0, none⟩)) := Blk.cell hX3 0
        go_wp2_with fail
        refine (Sound_calls g _ _ hS3).mono ?_; rintro e w4 ⟨rfl, rfl⟩
        rw [HSP.out]
        go_wp2_with fail
        rw [Exit.noGoto_ret]
        go_ret
        rw [HLI2.out]
        exact ⟨hS3, ⟨none, 0, rfl, Fr.nil⟩, (hK.trans hK3).upd_⟩
    · obtain rfl : acc.length = n := by omega
      have hT' : x1.texts acc.length = (acc, xk) := by rw [HT.out, Nat.sub_self, Oct.texts_zero]; simp
      cases hsp : xk.spoil
      · have hli : x.list most = (acc, xk) := by rw [HLI.out, hT']; simp [hsp]
        have HLI2 := Lib.hid hli
        have HSP := Lib.hid hsp
        have hco : wr.cell? ⟨w1.heap.size, 0, none⟩ = some ov := Blk.cell hO 0
        clear hsp hli hT'
        go_wp2_with fail
        refine (Sound_calls g _ _ hS).mono ?_; rintro e w4 ⟨rfl, rfl⟩
        rw [HSP.out]
        go_wp2_with fail
        rw [Exit.noGoto_ret]
        go_ret
        rw [HLI2.out]
        refine ⟨hS, ?_, hK.upd_⟩
        rcases hown.2 with ⟨rfl, h0⟩ | ⟨gg, cap, cur, rfl, _⟩
        · have h1 := List.eq_nil_of_length_eq_zero h0
          subst h1
          exact ⟨none, 0, rfl, Fr.nil⟩
        · exact ⟨some ⟨gg, 0, none⟩, cap, rfl, Fr.of_own hown⟩
      · have hli : x.list most = ([], xk) := by rw [HLI.out, hT']; simp [hsp]
        have HLI2 := Lib.hid hli
        have HSP := Lib.hid hsp
        clear hsp hli hT'
        go_wp2_with fail
        refine (Sound_calls g _ _ hS).mono ?_; rintro e w4 ⟨rfl, rfl⟩
        rw [HSP.out]
        go_wp2_with fail
        rw [Exit.noGoto_ret]
        go_ret
        rw [HLI2.out]
        exact ⟨hS, ⟨none, 0, rfl, Fr.nil⟩, hK.upd_⟩

end Go.Proofs.YtcgnjdkennkheaaGreatDoor
