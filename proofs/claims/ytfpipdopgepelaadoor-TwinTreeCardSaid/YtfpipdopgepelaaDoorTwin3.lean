/-
  Twins: the walks of twin.way, Way, and of the document's way, Way.
-/
import Derived.Test.YtfpipdopgepelaaDoorTwin2
set_option linter.unusedVariables false
set_option maxRecDepth 100000
set_option linter.unusedSimpArgs false
namespace Go.Proofs.YtfpipdopgepelaaDoor
open Go.ChangeShapes Go.WideShapes Go.ChangeAt Go.RowKit
attribute [local go_sem] bs_size bs_toList2 bs_append bs_extract_end bs_extract_begin bs_get wrap64_b grow_cell grow_frozen

theorem info_str : (Tryd.prog.info? 9).map (fun i => (i.zero, i.size, i.bytes)) = some (some (.string (bs [])), 1, 16) := by kernel_rfl
/-- A row of texts of the call's own. -/
abbrev OwnT (w : World) (base : Nat) (v : Value) (l : List (List UInt8)) : Prop := w.ownsRow base 9 1 v l.length (l.map strV)
/-- append(l, s) -/
theorem append_strK {ops : Array Oper} {rest : List Oper} {o : Oper} {a : Act} {w : World} {Q : Exit → Act → World → Prop} (hgd : o.guard = none) (s x : Operand) (ho : o.op = .call { callee := .builtin .append, args := #[s, x], argTypes := #[65, 65] })
    (v : Value) (l : List (List UInt8)) (b : List UInt8) (hs : a.eval s = v) (hx : a.eval x = .slice (some ⟨w.heap.size, 0, none⟩) 1 1) (hn : l.length ≤ 1099511627776) (base : Nat) (hb : base ≤ w.heap.size) (n : Nat) (hln : l.length = n)
    (h : w.ownsRow base 9 1 v n (l.map strV))
    (hK : ∀ A c w', w'.ownsRow base 9 1 (.slice A (n + 1) c) (n + 1) ((l ++ [b]).map strV) → Keep (fun k => some k ≠ v.ownBlock) w w' → wpList Tryd.prog ops Q rest (a.put o.dst (.slice A (n + 1) c)) w') :
    wpList Tryd.prog ops Q (o :: rest) a (w.alloc (.cells #[.string (bs b)] 9)) := by
  obtain ⟨i0, hi, hz0, hz1, hz2⟩ := info_parts info_str
  refine wpList_append_own _ hgd s x 65 ho base 9 i0 (.string (bs [])) 1 16 Tryd.underlying65 hi hz0 hz1 hz2 rfl (by decide) v n (l.map strV) hs (h.alloc _) ⟨w.heap.size, 0, none⟩ 1 1 [.string (bs b)] hx rfl (fun j u hj => ?_) (fun u hu => ?_) (by unfold maxLen; omega) (by omega) (by simp; omega) fun v' w' h1 h2 _ => ?_
  · match j, hj with
    | 0, hj => simp at hj; subst hj; simp [Addr.add]
  · simp at hu; subst hu; rfl
  · obtain ⟨A, c, rfl⟩ := own_slice h1
    refine hK A c w' ?_ (((Keep.refl _ _).alloc _).trans (.of_grown h2 (fun g e hs => hs e.symm)))
    rw [List.map_append]
    exact h1
theorem ownT_rd {w : World} {base : Nat} {v : Value} {l : List (List UInt8)} (h : OwnT w base v l) : ∃ A c, v = .slice A l.length c ∧ Rd w w.heap.size A (l.map strV) := by
  obtain ⟨A, c, h1, h2, _⟩ := own_rd h
  exact ⟨A, c, h1, h2⟩

/-- The texts on a way. -/
abbrev wayS (x : List UInt8) (T : List Bool) (l : List (List UInt8)) : List (List UInt8) := Way.way preB shaOf x T l
theorem way_snoc : ∀ (ts : List Bool) (hs : List (List UInt8)) (x : List UInt8) (t : Bool) (h : List UInt8), ts.length = hs.length → wayS x (ts ++ [t]) (hs ++ [h]) = wayS x ts hs ++ [if t then preB h (Way.foldW nodeB x ts hs) else preB (Way.foldW nodeB x ts hs) h]
  | [], [], x, t, h, _ => rfl
  | [], _ :: _, x, t, h, hl => by simp at hl
  | _ :: _, [], x, t, h, hl => by simp at hl
  | s :: ts, g :: hs, x, t, h, hl => by
    have ih := way_snoc ts hs (if s then nodeB g x else nodeB x g) t h (by simpa using hl)
    have e : shaOf (if s then preB g x else preB x g) = if s then nodeB g x else nodeB x g := by split <;> rfl
    show (if s then preB g x else preB x g) :: wayS (shaOf (if s then preB g x else preB x g)) (ts ++ [t]) (hs ++ [h]) = ((if s then preB g x else preB x g) :: wayS (shaOf (if s then preB g x else preB x g)) ts hs) ++ [_]
    rw [e, ih, Way.foldW_cons]
    rfl
theorem way_take (x : List UInt8) (T : List Bool) (l : List (List UInt8)) (k : Nat) (h1 : k < T.length) (h2 : k < l.length) : wayS x (T.take (k + 1)) (l.take (k + 1)) = wayS x (T.take k) (l.take k) ++ [if T[k] then preB l[k] (Way.foldW nodeB x (T.take k) (l.take k)) else preB (Way.foldW nodeB x (T.take k) (l.take k)) l[k]] := by
  rw [List.take_succ_eq_append_getElem h1, List.take_succ_eq_append_getElem h2, way_snoc _ _ _ _ _ (by rw [List.length_take, List.length_take]; omega)]
theorem way_len (x : List UInt8) (T : List Bool) (l : List (List UInt8)) (h : T.length = l.length) : (wayS x T l).length = l.length := Way.way_length preB shaOf T l x h
theorem turn_sha (h x : List UInt8) (b : Bool) : turnB h x b = shaOf (if b then preB h x else preB x h) := by unfold turnB; split <;> rfl
theorem ownT_far {w : World} {base n g : Nat} {v : Value} {xs : List Value} (h : w.ownsRow base 9 1 v n xs) {w' : World} (hk : Keep (fun k => k ≠ g) w w') (hg : g < base) : w'.ownsRow base 9 1 v n xs :=
  owns_keep h hk (fun k hk' => by have := (h.lt k hk').1; omega)
theorem wayS_bound : ∀ (T : List Bool) (l : List (List UInt8)) (x : List UInt8), x.length = 32 → AllH l → ∀ s ∈ wayS x T l, s.length = 65
  | [], l, x, hx, hl, s, hs => by simp [wayS, Way.way] at hs
  | t :: ts, [], x, hx, hl, s, hs => by simp [wayS, Way.way] at hs
  | t :: ts, h :: hs', x, hx, hl, s, hs => by
    have hh : h.length = 32 := hl _ (by simp)
    rcases List.mem_cons.1 hs with rfl | hs
    · split <;> rw [preB_length] <;> omega
    · exact wayS_bound ts hs' _ (shaOf_length _) hl.tail s hs

set_option maxHeartbeats 4000000 in
theorem way_calls (x : List UInt8) (hx : x.length = 32) (A : Option Addr) (cap : Nat) (l : List (List UInt8)) (hl : AllH l) (hll : l.length ≤ 1000000) (T : List Bool) (BT : Option Addr) (cT : Nat) (hT : T.length = l.length) (w : World) (KW : Keys w) (hrd : Rd w w.heap.size A (flatS l)) (hrT : Rd w w.heap.size BT (T.map Value.bool)) :
    Calls Tryd.prog 62 #[sumV x, .slice A l.length cap, .slice BT T.length cT] w fun e w' => ∃ v, e = .returned v ∧ OwnT w' w.heap.size v (wayS x T l) ∧ Ext w w' := by
  have hwl := way_len x T l hT
  have hfull : wayS x (T.take l.length) (l.take l.length) = wayS x T l := by rw [← hT, List.take_length, hT, List.take_length]
  obtain ⟨Y, hY⟩ : ∃ Y, Y = wayS x T l := ⟨_, rfl⟩
  rw [← hY] at hwl hfull ⊢
  have HY := Lib.hid hfull
  have Hwl := Lib.hid hwl
  have HTl := Lib.hid hT
  clear hY hwl hfull hT
  have hfold := fold_sum x hx
  unfold sumV
  go_enter Tryd.func62, Tryd.ntmps62
  have hX0 : ArrB (w.alloc (.cells (x.map byteV).toArray 23)) w.heap.size 23 x := Blk.new _ _ _
  have hE0 : Ext w (w.alloc (.cells (x.map byteV).toArray 23)) := (Ext.refl w).alloc _
  have hz0 : (w.alloc (.cells (x.map byteV).toArray 23)).heap.size = w.heap.size + 1 := alloc_size _ _
  have hp0 : Keep (fun k => k < w.heap.size) w (w.alloc (.cells (x.map byteV).toArray 23)) := Keep.of_ext hE0
  go_wp2_with fail
  change Code.wp _ _ _ _ (w.alloc (.cells (x.map byteV).toArray 23))
  generalize (w.alloc (.cells (x.map byteV).toArray 23)) = w1 at *
  have hO0 : w1.ownsRow (w.heap.size + 1) 9 1 (.slice none 0 0) 0 (([] : List (List UInt8)).map strV) := World.ownsRow_nil _ _ _ _
  have h0l := KW.lt0
  go_loopw [7, 8, 9, 10, 11, 14] (fun s7 _ _ _ _ s14 wr => ∃ (k : Nat) (v : Value), k ≤ l.length ∧ s14 = .int .i64 (k : Int) ∧ s7 = v ∧ ArrB wr w.heap.size 23 (Way.foldW nodeB x (T.take k) (l.take k)) ∧ wr.ownsRow (w.heap.size + 1) 9 1 v k ((wayS x (T.take k) (l.take k)).map strV) ∧ w.heap.size + 1 ≤ wr.heap.size ∧ Keep (fun k => k < w.heap.size) w wr) (fun _ _ _ _ _ s14 _ => l.length - (intOf s14).toNat)
  case atStart => exact ⟨0, _, Nat.zero_le _, rfl, rfl, by rw [List.take_zero, Way.foldW_nil]; exact hX0, by rw [List.take_zero]; exact hO0, by omega, hp0⟩
  case round =>
    obtain ⟨wo, rfl⟩ : ∃ wo : World, wo = wr := ⟨_, rfl⟩
    obtain ⟨k, v, hk, rfl, rfl, hX, hO, hzz, hKp⟩ := hrel
    clear hX0 hE0 hz0 hp0 hO0
    have Ko : Keys wo := KW.keep hKp h0l
    by_cases hlt : k < l.length
    · have hlI : (k : Int) < (l.length : Int) := by omega
      have hkT : k < T.length := by rw [HTl.out]; exact hlt
      have hTI : (k : Int) < (T.length : Int) := by omega
      obtain ⟨b3, o3, rfl, hb3, hcT⟩ := hrT (map_ne Value.bool hkT)
      have cT0 : w.cell? ⟨b3, o3 + k, none⟩ = some (.bool T[k]) := hcT k (.bool T[k]) (by simp [hkT])
      obtain ⟨b, off, rfl, hbl, hm0⟩ := rds_mid hrd hl hlt
      have hq : l[k].length = 32 := hl _ (List.getElem_mem hlt)
      have hfl := foldW_length (T.take k) (l.take k) x hx
      have hwt := way_take x T l k hkT hlt
      have hft := foldW_take x T l k hkT hlt
      rw [turn_sha] at hft
      have hpl : (wayS x (T.take k) (l.take k)).length = k := by rw [way_len _ _ _ (by rw [List.length_take, List.length_take]; omega), List.length_take]; omega
      generalize l[k] = q at *
      generalize T[k] = tk at *
      generalize Way.foldW nodeB x (T.take k) (l.take k) = z at *
      generalize wayS x (T.take k) (l.take k) = out at *
      have Hwt := Lib.hid hwt
      have Hft := Lib.hid hft
      have Hpl := Lib.hid hpl
      clear hwt hft hcT hpl
      cases tk
      · skip
        have cT1 : wo.cell? ⟨b3, o3 + k, none⟩ = some (.bool false) := (World.cell?_of_block (hKp.block b3 (by omega) hb3)).trans cT0
        have hm : wo.rangeAt b (off + k * 32) (hcells q) := fun i u hu => (World.cell?_of_block (hKp.block b (by omega) hbl)).trans (hm0 i u hu)
        have hbo : b < wo.heap.size := by have := hKp.size; omega
        have hb3o : b3 < wo.heap.size := by have := hKp.size; omega
        go_wp2_with (refine stop_load 23 (.tmp 17) rfl ?_)
        refine ⟨?_⟩
        refine wpList_load_mid rfl 23 (.tmp 17) rfl b (off + k * 32) (by rfl) (hcells q) _ hm Tryd.underlying23 rfl (size32l _ hq) ?_
        simp only [Act.put, List.setIfInBounds_toArray, List.set_cons_zero, List.set_cons_succ]
        unfold hcells
        try unfold sumV
        go_wp2_with (refine stop_store 23 (.tmp 9) (.tmp 18) rfl ?_)
        refine ⟨?_⟩
        change wpList _ _ _ _ _ (wo.alloc (.cells ((zerosB 32).map byteV).toArray 23))
        have hQ0 : ArrB (wo.alloc (.cells ((zerosB 32).map byteV).toArray 23)) wo.heap.size 23 (zerosB 32) := Blk.new _ _ _
        refine wpList_store_row rfl 23 (.tmp 9) (.tmp 18) rfl wo.heap.size ((q).map byteV).toArray (by rfl) (by rfl) 23 _ hQ0 (size32.trans (by simp [hq])) (by simp [hq, zerosB]) (by simp [byteV, Value.oneCell']) ?_
        simp only [Act.put, List.setIfInBounds_toArray, List.set_cons_zero, List.set_cons_succ]
        have hQ : ArrB ((wo.alloc (.cells ((zerosB 32).map byteV).toArray 23)).setRow wo.heap.size ((q).map byteV).toArray) wo.heap.size 23 (q) := Blk.row hQ0 _
        have e2 : Ext wo ((wo.alloc (.cells ((zerosB 32).map byteV).toArray 23)).setRow wo.heap.size ((q).map byteV).toArray) := ((Ext.refl wo).alloc _).row (Nat.le_refl _) _
        clear hQ0
        generalize (wo.alloc (.cells ((zerosB 32).map byteV).toArray 23)).setRow wo.heap.size ((q).map byteV).toArray = v1 at *
        have g3l := Blk.lt hQ
        obtain ⟨g3, g3e⟩ : ∃ g3, g3 = wo.heap.size := ⟨_, rfl⟩
        rw [← g3e] at hQ g3l
        try rw [← g3e]
        have g3b : wo.heap.size ≤ g3 := by omega
        replace hX := Blk.below hX e2 (Blk.lt hX)
        replace hO := owns_ext hO e2
        replace hKp := hKp.trans (Keep.of_ext e2)
        replace Ko := Ko.ext e2
        replace hzz := Nat.le_trans hzz e2.size
        replace cT1 : v1.cell? ⟨b3, o3 + k, none⟩ = some (.bool false) := (World.cell?_of_block (hKp.block b3 (by omega) hb3)).trans cT0
        replace hm : v1.rangeAt b (off + k * 32) (hcells q) := fun i u hu => (World.cell?_of_block (hKp.block b (by omega) hbl)).trans (hm0 i u hu)
        replace hbo : b < v1.heap.size := by have := hKp.size; omega
        replace hb3o : b3 < v1.heap.size := by have := hKp.size; omega
        clear e2
        clear g3e
        go_wp2_with (refine stop_load 23 (.tmp 3) rfl ?_)
        refine ⟨?_⟩
        refine wpList_load_row rfl 23 (.tmp 3) rfl w.heap.size (by rfl) 23 _ (0, 0) _ hX Tryd.underlying23 rfl (size32.trans (by simp [hfl])) ?_
        simp only [Act.put, List.setIfInBounds_toArray, List.set_cons_zero, List.set_cons_succ]
        go_wp2_with (refine stop_load 23 (.tmp 9) rfl ?_)
        refine ⟨?_⟩
        refine wpList_load_row rfl 23 (.tmp 9) rfl g3 (by rfl) 23 _ (0, 0) _ hQ Tryd.underlying23 rfl (size32.trans (by simp [hq])) ?_
        simp only [Act.put, List.setIfInBounds_toArray, List.set_cons_zero, List.set_cons_succ]
        go_wp2_with fail
        change Calls _ _ #[sumV z, sumV q] _ _
        refine (Preimage_calls z q hfl hq _).mono ?_; rintro e v5 ⟨rfl, e4⟩
        replace hX := Blk.below hX e4 (Blk.lt hX)
        replace hO := owns_ext hO e4
        replace hKp := hKp.trans (Keep.of_ext e4)
        replace Ko := Ko.ext e4
        replace hzz := Nat.le_trans hzz e4.size
        replace hQ := Blk.below hQ e4 (Blk.lt hQ)
        replace cT1 : v5.cell? ⟨b3, o3 + k, none⟩ = some (.bool false) := (World.cell?_of_block (hKp.block b3 (by omega) hb3)).trans cT0
        replace hm : v5.rangeAt b (off + k * 32) (hcells q) := fun i u hu => (World.cell?_of_block (hKp.block b (by omega) hbl)).trans (hm0 i u hu)
        replace hbo : b < v5.heap.size := by have := hKp.size; omega
        replace hb3o : b3 < v5.heap.size := by have := hKp.size; omega
        clear e4
        have hsl : (preB z q).length = 65 := by rw [preB_length]; omega
        have hw2 : wayS x (T.take (k + 1)) (l.take (k + 1)) = out ++ [preB z q] := Hwt.out
        have hf2 : Way.foldW nodeB x (T.take (k + 1)) (l.take (k + 1)) = shaOf (preB z q) := Hft.out
        have Hw2 := Lib.hid hw2
        have Hf2 := Lib.hid hf2
        clear Hwt Hft hw2 hf2
        generalize preB z q = s at *
        go_wp2_with (refine stop_dst 33 rfl ?_)
        refine ⟨?_⟩
        change wpList _ _ _ _ _ (v5.alloc (.cells #[.string (bs s)] 9))
        refine append_strK rfl (.tmp 30) (.tmp 32) rfl _ out s rfl rfl (by rw [Hpl.out]; omega) (w.heap.size + 1) hzz k Hpl.out hO fun A5 c5 w5 hO5 hk5 => ?_
        simp only [Act.put, List.setIfInBounds_toArray, List.set_cons_zero, List.set_cons_succ]
        replace hKp := hKp.trans (hk5.mono (fun k' _ h' => fun he => by have := (hO.lt k' he.symm).1; omega))
        replace hX := Blk.kept hX hk5 (fun he => by have := (hO.lt _ he.symm).1; omega)
        replace hzz := Nat.le_trans hzz hk5.size
        replace Ko : Keys w5 := Ko.keep hk5 (fun he => by have := (hO.lt _ he.symm).1; omega)
        clear hk5 hO hQ cT1 hm hbo hb3o cT0 hm0
        rw [← Hw2.out] at hO5
        go_wp2_with fail
        have hj := joinB_one s
        change Calls _ _ _ (w5.alloc (.cells ([s].map strV).toArray 9)) _
        have hR5 : Rd (w5.alloc (.cells ([s].map strV).toArray 9)) (w5.alloc (.cells ([s].map strV).toArray 9)).heap.size (some ⟨w5.heap.size, 0, none⟩) ([s].map strV) := Blk.rd (Blk.new w5 _ _)
        have e5 : Ext w5 (w5.alloc (.cells ([s].map strV).toArray 9)) := (Ext.refl w5).alloc _
        refine (Of_calls [s] _ 1 _ (Ko.ext e5) hR5 (by simp) (by rw [hj]; omega)).mono ?_; rw [hj]; rintro e w6 ⟨rfl, e6⟩
        replace e6 := e5.trans e6
        clear hR5 e5
        replace hX := Blk.below hX e6 (Blk.lt hX)
        replace hO5 := owns_ext hO5 e6
        replace hKp := hKp.trans (Keep.of_ext e6)
        replace hzz := Nat.le_trans hzz e6.size
        clear e6
        have hs32 := shaOf_length s
        unfold sumV
        go_wp2_with (refine stop_store 23 (.tmp 3) (.tmp 36) rfl ?_)
        refine ⟨?_⟩
        refine wpList_store_row rfl 23 (.tmp 3) (.tmp 36) rfl w.heap.size ((shaOf s).map byteV).toArray (by rfl) (by rfl) 23 _ hX (size32.trans (by simp [hs32])) (by simp [hs32, hfl]) (by simp [byteV, Value.oneCell']) ?_
        simp only [Act.put, List.setIfInBounds_toArray, List.set_cons_zero, List.set_cons_succ]
        have hX7 : ArrB (w6.setRow w.heap.size ((shaOf s).map byteV).toArray) w.heap.size 23 (shaOf s) := Blk.row hX _
        have hX7u : Upd w.heap.size w6 (w6.setRow w.heap.size ((shaOf s).map byteV).toArray) := (Upd.refl _ _).row _
        generalize w6.setRow w.heap.size ((shaOf s).map byteV).toArray = w7 at *
        have hO7 := ownT_far (g := w.heap.size) hO5 (Keep.of_upd hX7u (fun h => h rfl)) (by omega)
        have hKp7 := hKp.trans (Keep.of_upd hX7u (fun h => absurd h (by omega)))
        have hz7 : w.heap.size + 1 ≤ w7.heap.size := Nat.le_trans hzz hX7u.size
        rw [← Hf2.out] at hX7
        clear hX hO5 hKp hX7u
        go_wp2_with fail
        go_roundw
        case rel =>
          first
            | exact ⟨k + 1, _, by omega, by go_num, rfl, hX7, hO7, hz7, hKp7⟩
            | (repeat apply Exists.intro
               refine ⟨?_, rfl⟩
               exact ⟨k + 1, _, by omega, by go_num, rfl, hX7, hO7, hz7, hKp7⟩)
        case measure => simp [intOf]; omega
      · skip
        have cT1 : wo.cell? ⟨b3, o3 + k, none⟩ = some (.bool true) := (World.cell?_of_block (hKp.block b3 (by omega) hb3)).trans cT0
        have hm : wo.rangeAt b (off + k * 32) (hcells q) := fun i u hu => (World.cell?_of_block (hKp.block b (by omega) hbl)).trans (hm0 i u hu)
        have hbo : b < wo.heap.size := by have := hKp.size; omega
        have hb3o : b3 < wo.heap.size := by have := hKp.size; omega
        go_wp2_with (refine stop_load 23 (.tmp 17) rfl ?_)
        refine ⟨?_⟩
        refine wpList_load_mid rfl 23 (.tmp 17) rfl b (off + k * 32) (by rfl) (hcells q) _ hm Tryd.underlying23 rfl (size32l _ hq) ?_
        simp only [Act.put, List.setIfInBounds_toArray, List.set_cons_zero, List.set_cons_succ]
        unfold hcells
        try unfold sumV
        go_wp2_with (refine stop_store 23 (.tmp 9) (.tmp 18) rfl ?_)
        refine ⟨?_⟩
        change wpList _ _ _ _ _ (wo.alloc (.cells ((zerosB 32).map byteV).toArray 23))
        have hQ0 : ArrB (wo.alloc (.cells ((zerosB 32).map byteV).toArray 23)) wo.heap.size 23 (zerosB 32) := Blk.new _ _ _
        refine wpList_store_row rfl 23 (.tmp 9) (.tmp 18) rfl wo.heap.size ((q).map byteV).toArray (by rfl) (by rfl) 23 _ hQ0 (size32.trans (by simp [hq])) (by simp [hq, zerosB]) (by simp [byteV, Value.oneCell']) ?_
        simp only [Act.put, List.setIfInBounds_toArray, List.set_cons_zero, List.set_cons_succ]
        have hQ : ArrB ((wo.alloc (.cells ((zerosB 32).map byteV).toArray 23)).setRow wo.heap.size ((q).map byteV).toArray) wo.heap.size 23 (q) := Blk.row hQ0 _
        have e2 : Ext wo ((wo.alloc (.cells ((zerosB 32).map byteV).toArray 23)).setRow wo.heap.size ((q).map byteV).toArray) := ((Ext.refl wo).alloc _).row (Nat.le_refl _) _
        clear hQ0
        generalize (wo.alloc (.cells ((zerosB 32).map byteV).toArray 23)).setRow wo.heap.size ((q).map byteV).toArray = v1 at *
        have g3l := Blk.lt hQ
        obtain ⟨g3, g3e⟩ : ∃ g3, g3 = wo.heap.size := ⟨_, rfl⟩
        rw [← g3e] at hQ g3l
        try rw [← g3e]
        have g3b : wo.heap.size ≤ g3 := by omega
        replace hX := Blk.below hX e2 (Blk.lt hX)
        replace hO := owns_ext hO e2
        replace hKp := hKp.trans (Keep.of_ext e2)
        replace Ko := Ko.ext e2
        replace hzz := Nat.le_trans hzz e2.size
        replace cT1 : v1.cell? ⟨b3, o3 + k, none⟩ = some (.bool true) := (World.cell?_of_block (hKp.block b3 (by omega) hb3)).trans cT0
        replace hm : v1.rangeAt b (off + k * 32) (hcells q) := fun i u hu => (World.cell?_of_block (hKp.block b (by omega) hbl)).trans (hm0 i u hu)
        replace hbo : b < v1.heap.size := by have := hKp.size; omega
        replace hb3o : b3 < v1.heap.size := by have := hKp.size; omega
        clear e2
        clear g3e
        go_wp2_with (refine stop_load 23 (.tmp 3) rfl ?_)
        refine ⟨?_⟩
        refine wpList_load_row rfl 23 (.tmp 3) rfl w.heap.size (by rfl) 23 _ (0, 0) _ hX Tryd.underlying23 rfl (size32.trans (by simp [hfl])) ?_
        simp only [Act.put, List.setIfInBounds_toArray, List.set_cons_zero, List.set_cons_succ]
        go_wp2_with (refine stop_load 23 (.tmp 9) rfl ?_)
        refine ⟨?_⟩
        refine wpList_load_row rfl 23 (.tmp 9) rfl g3 (by rfl) 23 _ (0, 0) _ hQ Tryd.underlying23 rfl (size32.trans (by simp [hq])) ?_
        simp only [Act.put, List.setIfInBounds_toArray, List.set_cons_zero, List.set_cons_succ]
        go_wp2_with fail
        change Calls _ _ #[sumV z, sumV q] _ _
        refine (Preimage_calls z q hfl hq _).mono ?_; rintro e v5 ⟨rfl, e4⟩
        replace hX := Blk.below hX e4 (Blk.lt hX)
        replace hO := owns_ext hO e4
        replace hKp := hKp.trans (Keep.of_ext e4)
        replace Ko := Ko.ext e4
        replace hzz := Nat.le_trans hzz e4.size
        replace hQ := Blk.below hQ e4 (Blk.lt hQ)
        replace cT1 : v5.cell? ⟨b3, o3 + k, none⟩ = some (.bool true) := (World.cell?_of_block (hKp.block b3 (by omega) hb3)).trans cT0
        replace hm : v5.rangeAt b (off + k * 32) (hcells q) := fun i u hu => (World.cell?_of_block (hKp.block b (by omega) hbl)).trans (hm0 i u hu)
        replace hbo : b < v5.heap.size := by have := hKp.size; omega
        replace hb3o : b3 < v5.heap.size := by have := hKp.size; omega
        clear e4
        go_wp2_with (refine stop_load 23 (.tmp 9) rfl ?_)
        refine ⟨?_⟩
        refine wpList_load_row rfl 23 (.tmp 9) rfl g3 (by rfl) 23 _ (0, 0) _ hQ Tryd.underlying23 rfl (size32.trans (by simp [hq])) ?_
        simp only [Act.put, List.setIfInBounds_toArray, List.set_cons_zero, List.set_cons_succ]
        go_wp2_with (refine stop_load 23 (.tmp 3) rfl ?_)
        refine ⟨?_⟩
        refine wpList_load_row rfl 23 (.tmp 3) rfl w.heap.size (by rfl) 23 _ (0, 0) _ hX Tryd.underlying23 rfl (size32.trans (by simp [hfl])) ?_
        simp only [Act.put, List.setIfInBounds_toArray, List.set_cons_zero, List.set_cons_succ]
        go_wp2_with fail
        change Calls _ _ #[sumV q, sumV z] _ _
        refine (Preimage_calls q z hq hfl _).mono ?_; rintro e v7 ⟨rfl, e6⟩
        replace hX := Blk.below hX e6 (Blk.lt hX)
        replace hO := owns_ext hO e6
        replace hKp := hKp.trans (Keep.of_ext e6)
        replace Ko := Ko.ext e6
        replace hzz := Nat.le_trans hzz e6.size
        replace hQ := Blk.below hQ e6 (Blk.lt hQ)
        replace cT1 : v7.cell? ⟨b3, o3 + k, none⟩ = some (.bool true) := (World.cell?_of_block (hKp.block b3 (by omega) hb3)).trans cT0
        replace hm : v7.rangeAt b (off + k * 32) (hcells q) := fun i u hu => (World.cell?_of_block (hKp.block b (by omega) hbl)).trans (hm0 i u hu)
        replace hbo : b < v7.heap.size := by have := hKp.size; omega
        replace hb3o : b3 < v7.heap.size := by have := hKp.size; omega
        clear e6
        have hsl : (preB q z).length = 65 := by rw [preB_length]; omega
        have hw2 : wayS x (T.take (k + 1)) (l.take (k + 1)) = out ++ [preB q z] := Hwt.out
        have hf2 : Way.foldW nodeB x (T.take (k + 1)) (l.take (k + 1)) = shaOf (preB q z) := Hft.out
        have Hw2 := Lib.hid hw2
        have Hf2 := Lib.hid hf2
        clear Hwt Hft hw2 hf2
        generalize preB q z = s at *
        go_wp2_with (refine stop_dst 33 rfl ?_)
        refine ⟨?_⟩
        change wpList _ _ _ _ _ (v7.alloc (.cells #[.string (bs s)] 9))
        refine append_strK rfl (.tmp 30) (.tmp 32) rfl _ out s rfl rfl (by rw [Hpl.out]; omega) (w.heap.size + 1) hzz k Hpl.out hO fun A5 c5 w5 hO5 hk5 => ?_
        simp only [Act.put, List.setIfInBounds_toArray, List.set_cons_zero, List.set_cons_succ]
        replace hKp := hKp.trans (hk5.mono (fun k' _ h' => fun he => by have := (hO.lt k' he.symm).1; omega))
        replace hX := Blk.kept hX hk5 (fun he => by have := (hO.lt _ he.symm).1; omega)
        replace hzz := Nat.le_trans hzz hk5.size
        replace Ko : Keys w5 := Ko.keep hk5 (fun he => by have := (hO.lt _ he.symm).1; omega)
        clear hk5 hO hQ cT1 hm hbo hb3o cT0 hm0
        rw [← Hw2.out] at hO5
        go_wp2_with fail
        have hj := joinB_one s
        change Calls _ _ _ (w5.alloc (.cells ([s].map strV).toArray 9)) _
        have hR5 : Rd (w5.alloc (.cells ([s].map strV).toArray 9)) (w5.alloc (.cells ([s].map strV).toArray 9)).heap.size (some ⟨w5.heap.size, 0, none⟩) ([s].map strV) := Blk.rd (Blk.new w5 _ _)
        have e5 : Ext w5 (w5.alloc (.cells ([s].map strV).toArray 9)) := (Ext.refl w5).alloc _
        refine (Of_calls [s] _ 1 _ (Ko.ext e5) hR5 (by simp) (by rw [hj]; omega)).mono ?_; rw [hj]; rintro e w6 ⟨rfl, e6⟩
        replace e6 := e5.trans e6
        clear hR5 e5
        replace hX := Blk.below hX e6 (Blk.lt hX)
        replace hO5 := owns_ext hO5 e6
        replace hKp := hKp.trans (Keep.of_ext e6)
        replace hzz := Nat.le_trans hzz e6.size
        clear e6
        have hs32 := shaOf_length s
        unfold sumV
        go_wp2_with (refine stop_store 23 (.tmp 3) (.tmp 36) rfl ?_)
        refine ⟨?_⟩
        refine wpList_store_row rfl 23 (.tmp 3) (.tmp 36) rfl w.heap.size ((shaOf s).map byteV).toArray (by rfl) (by rfl) 23 _ hX (size32.trans (by simp [hs32])) (by simp [hs32, hfl]) (by simp [byteV, Value.oneCell']) ?_
        simp only [Act.put, List.setIfInBounds_toArray, List.set_cons_zero, List.set_cons_succ]
        have hX7 : ArrB (w6.setRow w.heap.size ((shaOf s).map byteV).toArray) w.heap.size 23 (shaOf s) := Blk.row hX _
        have hX7u : Upd w.heap.size w6 (w6.setRow w.heap.size ((shaOf s).map byteV).toArray) := (Upd.refl _ _).row _
        generalize w6.setRow w.heap.size ((shaOf s).map byteV).toArray = w7 at *
        have hO7 := ownT_far (g := w.heap.size) hO5 (Keep.of_upd hX7u (fun h => h rfl)) (by omega)
        have hKp7 := hKp.trans (Keep.of_upd hX7u (fun h => absurd h (by omega)))
        have hz7 : w.heap.size + 1 ≤ w7.heap.size := Nat.le_trans hzz hX7u.size
        rw [← Hf2.out] at hX7
        clear hX hO5 hKp hX7u
        go_wp2_with fail
        go_roundw
        case rel =>
          first
            | exact ⟨k + 1, _, by omega, by go_num, rfl, hX7, hO7, hz7, hKp7⟩
            | (repeat apply Exists.intro
               refine ⟨?_, rfl⟩
               exact ⟨k + 1, _, by omega, by go_num, rfl, hX7, hO7, hz7, hKp7⟩)
        case measure => simp [intOf]; omega
    · obtain rfl : k = l.length := by omega
      rw [HY.out] at hO
      have hw := Hwl.out
      rw [← hw] at hO
      have HO := Lib.hid hO
      clear hO hw
      go_wp2_with fail
      go_ret
      exact ⟨_, rfl, owns_base HO.out (by omega), hKp.ext⟩

end Go.Proofs.YtfpipdopgepelaaDoor
