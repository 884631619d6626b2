/-
  scriniumlaw15.RecordJoins: the row of two rows, one behind the other, is that of both put together.
-/
import Derived.Test.YtnpmojfjoemelaaRec2
import Derived.Laws.AppendOwnNone
set_option linter.unusedVariables false
set_option linter.unusedSimpArgs false
namespace Go.Proofs.Ytnpmojfjoemelaa.recordJoins
open Go.ChangeShapes Go.WideShapes Go.ChangeAt Go.RowKit
attribute [local go_sem] bs_size bs_toList2 bs_append bs_extract_end bs_extract_begin bs_get wrap64_b

def cutR (r : Rc) : Rc := ⟨0, 0, r.time, r.pay.take 100⟩
def cutK (l : List Rc) (k : Nat) : List Rc := (l.take k).map cutR
theorem cutK_succ (l : List Rc) (k : Nat) (h : k < l.length) : (cutK l (k + 1)).flatMap Rc.cells = (cutK l k).flatMap Rc.cells ++ (cutR l[k]).cells := by
  unfold cutK
  rw [List.take_succ_eq_append_getElem h, List.map_append, List.flatMap_append]
  simp only [List.map_cons, List.map_nil, List.flatMap_cons, List.flatMap_nil, List.append_nil]
theorem cutK_length (l : List Rc) (k : Nat) (h : k ≤ l.length) : (cutK l k).length = k := by simp [cutK]; omega
theorem cutK_pay (l : List Rc) (k : Nat) : ∀ r ∈ cutK l k, r.pay.length ≤ 100 := by
  intro r hr
  simp only [cutK, List.mem_map] at hr
  obtain ⟨q, _, rfl⟩ := hr
  simp [cutR]; omega

theorem own_slice {w : World} {base size n : Nat} {e : TypeId} {v : Value} {xs : List Value} (h : w.ownsRow base e size v n xs) : ∃ A c, v = .slice A n c ∧ Fr w base A xs ∧ (A = none → n = 0 ∧ c = 0) := by
  rcases h.2 with ⟨rfl, h0⟩ | ⟨gg, cap, cur, rfl, _⟩
  · subst h0
    exact ⟨none, 0, rfl, Fr.of_own h, fun _ => ⟨rfl, rfl⟩⟩
  · exact ⟨some ⟨gg, 0, none⟩, cap, rfl, Fr.of_own h, fun e => by cases e⟩
theorem cells_length (l : List Rc) : (l.flatMap Rc.cells).length = l.length * 4 := by
  induction l with
  | nil => rfl
  | cons r l ih => rw [List.flatMap_cons, List.length_append, ih, List.length_cons, Nat.add_mul]; simp [Rc.cells]; omega
theorem cells_one (l : List Rc) : ∀ u ∈ l.flatMap Rc.cells, u.oneCell' = true := by
  intro u hu
  obtain ⟨r, _, hr⟩ := List.mem_flatMap.1 hu
  simp [Rc.cells, strV] at hr
  rcases hr with rfl | rfl | rfl | rfl <;> rfl
theorem fr_news {w : World} {base : Nat} {ad : Addr} {xs : List Value} (h : Fr w base (some ad) xs) : ∀ j u, xs[j]? = some u → w.cell? (ad.add j) = some u := fun j u hu => by
  obtain ⟨b, off, e, _, _, hc⟩ := h (by rintro rfl; simp at hu)
  injection e with e
  subst e
  rw [Go.WideShapes.add_plain]
  exact hc j u hu

/-- append of a list that is nil or not. -/
theorem append_fr {P : Program} {w : World} {ops : Array Oper} {rest : List Oper} {o : Oper} {a : Act} {Q : Exit → Act → World → Prop} (hgd : o.guard = none) (s x : Operand) (t : TypeId)
    (ho : o.op = .call { callee := .builtin .append, args := #[s, x], argTypes := #[t, t] })
    (base : Nat) (e : TypeId) (i : TypeInfo) (z : Value) (size bytes : Nat) (ht : P.underlying t = some (.slice e)) (hi : P.info? e = some i) (hz : i.zero = some z)
    (hsize : i.size = size) (hby : i.bytes = bytes) (hzs : z.cells.size = size) (hsz : 0 < size)
    (v : Value) (n : Nat) (xs : List Value) (hs : a.eval s = v) (hown : w.ownsRow base e size v n xs)
    (A : Option Addr) (b0 m c : Nat) (news : List Value) (hx : a.eval x = .slice A m c) (hl : news.length = m * size) (hF : Fr w b0 A news) (hN : A = none → m = 0 ∧ c = 0) (h1 : ∀ u ∈ news, u.oneCell' = true)
    (h63 : n + m ≤ maxLen) (hbytes : (n + m) * bytes ≤ 140737488355328) (hbase : base ≤ w.heap.size)
    (h : ∀ v' w', w'.ownsRow base e size v' (n + m) (xs ++ news) → w.grownBy w' v.ownBlock → wpList P ops Q rest (a.put o.dst v') w') : wpList P ops Q (o :: rest) a w := by
  rcases A with _ | ad
  · obtain ⟨rfl, rfl⟩ := hN rfl
    obtain rfl : news = [] := List.eq_nil_of_length_eq_zero (by simpa using hl)
    exact wpList_append_own_none hgd s x t ho base e i size ht hi v n xs hs hown hx (h v w (by simpa using hown) (World.grownBy.refl _ _))
  · exact wpList_append_own w hgd s x t ho base e i z size bytes ht hi hz hsize hby hzs hsz v n xs hs hown ad m c news hx hl (fr_news hF) h1 h63 hbytes hbase fun v' w' p q _ => h v' w' p q

theorem info_rec : (Try.prog.info? 28).map (fun i => (i.zero, i.size, i.bytes)) = some (some (.agg #[.int .i64 0, .int .i64 0, .int .i64 0, .string .empty]), 4, 40) := by kernel_rfl

set_option maxHeartbeats 2000000 in
set_option maxRecDepth 100000 in
theorem walk (B : Nat) (A1 A2 : Option Addr) (p1 p2 : Nat) (l1 l2 : List Rc) (w : World) (hB : B ≤ w.heap.size)
    (h1 : Rd w B A1 (l1.flatMap Rc.cells)) (n1 : l1.length ≤ 9223372036854775807) (q1 : ∀ r ∈ l1, r.fit ∧ r.pay.length ≤ 9223372036854775807)
    (h2 : Rd w B A2 (l2.flatMap Rc.cells)) (n2 : l2.length ≤ 9223372036854775807) (q2 : ∀ r ∈ l2, r.fit ∧ r.pay.length ≤ 9223372036854775807) :
    Calls Try.prog 5 #[.slice A1 l1.length p1, .slice A2 l2.length p2] w fun e w' => e = .returned (.bool true) ∧ Ext w w' := by
  obtain ⟨i0, hi, hz0, hz1, hz2⟩ := info_parts info_rec
  go_enter Try.func5, Try.ntmps5
  go_wp2_with fail
  refine (awake15_calls _).mono ?_; rintro e w1 ⟨rfl, e1⟩
  go_wp2_with fail
  have hBw1 : B ≤ w1.heap.size := Nat.le_trans hB e1.size
  go_loopw [7, 8] (fun v i wr => ∃ k : Nat, k ≤ l1.length ∧ k ≤ 12 ∧ i = .int .i64 k ∧ wr.ownsRow w1.heap.size 28 4 v k ((cutK l1 k).flatMap Rc.cells) ∧ Ext w1 wr) (fun _ i _ => 12 - (intOf i).toNat)
  case atStart => exact ⟨0, Nat.zero_le _, Nat.zero_le _, rfl, World.ownsRow_nil _ _ _ _, Ext.refl _⟩
  case round =>
    obtain ⟨k, hk, hk12, rfl, hown, hE⟩ := hrel
    by_cases hlt : k < l1.length ∧ k < 12
    · obtain ⟨hlt, hlt12⟩ := hlt
      obtain ⟨b, off, rfl, hbB, c0, c1, c2, c3⟩ := rec_cells (h1.below (e1.trans hE) hB) hlt
      have hpk := (q1 _ (List.getElem_mem hlt)).2
      have HS := Lib.hid (cutK_succ l1 k hlt)
      generalize l1[k] = r at *
      have hk0 : (0 : Int) ≤ (k : Int) := by omega
      have hk1 : (k : Int) < (l1.length : Int) := by omega
      have hsz := hE.size
      clear h1
      go_wp2_with fail
      go_region_law (first
        | (refine step_append_lies _ (by rfl) _ _ _ (by rfl) w1.heap.size 28 i0 _ 4 40 Try.underlying34 hi hz0 hz1 hz2 rfl (by omega) _ k ((cutK l1 k).flatMap Rc.cells) (by rfl) (hown.drew.alloc _) ⟨wr.heap.size, 0, none⟩ 1 1 (cutR r).cells (by rfl) (by rfl) (World.news_of_block (cs := #[.int .i64 0, .int .i64 0, .int .i64 r.time, .string (bs (r.pay.take 100))]) (t := 28) (fr := (0, 0)) (heap_alloc_new wr.drew _)) (by intro u hu; simp [Rc.cells, strV] at hu; rcases hu with rfl | rfl | rfl | rfl <;> rfl) (by omega) (by unfold maxLen; omega) (by omega) (by simp; omega) (wr.heap.size + 1) (by simp) ?_; intro gg cap w3 hown3 hgrow hat hltg)
        | (go_simp; go_at_call 22; refine (short15_calls r.pay 100 _ hpk (by omega)).mono ?_; rintro e w4 ⟨rfl, rfl⟩))
      all_goals
        have hE3 : Ext w1 w3 := ((hE.drew).alloc _).grown hgrow (by simp; omega) (fun g hg => (hown.lt g hg).1)
        rw [← HS.out] at hown3
        clear hgrow hown hat
        go_wp2_with fail
        go_roundw
        case rel => exact ⟨k + 1, by omega, by omega, by go_num, hown3, hE3⟩
        case measure => simp [intOf]; omega
    · have hmin : k = min l1.length 12 := by omega
      rcases (show (¬ k < l1.length) ∨ (k < l1.length ∧ ¬ k < 12) from by omega) with hn | ⟨hp, hn⟩
      all_goals
        have hklen := cutK_length l1 k hk
        have hkpay := cutK_pay l1 k
        obtain ⟨X1, c1, rfl, hF1, hN1⟩ := own_slice hown
        have hE1 := e1.trans hE
        generalize cutK l1 k = m1 at *
        have hm1 : m1.length ≤ 12 := by omega
        have hpay1 := hkpay
        subst hklen
        clear hmin hown hkpay hE hlt h1 q1 e1
        generalize wr = w2 at *
        go_wp2_with fail
        have hBw2 : B ≤ w2.heap.size := Nat.le_trans hB hE1.size
        go_loopw [9, 10] (fun v i wr => ∃ k : Nat, k ≤ l2.length ∧ k ≤ 12 ∧ i = .int .i64 k ∧ wr.ownsRow w2.heap.size 28 4 v k ((cutK l2 k).flatMap Rc.cells) ∧ Ext w2 wr) (fun _ i _ => 12 - (intOf i).toNat)
        case atStart => exact ⟨0, Nat.zero_le _, Nat.zero_le _, rfl, World.ownsRow_nil _ _ _ _, Ext.refl _⟩
        case round =>
          obtain ⟨k, hk, hk12, rfl, hown, hE⟩ := hrel
          by_cases hlt : k < l2.length ∧ k < 12
          · obtain ⟨hlt, hlt12⟩ := hlt
            obtain ⟨b, off, rfl, hbB, c0, c1, c2, c3⟩ := rec_cells (h2.below (hE1.trans hE) hB) hlt
            have hpk := (q2 _ (List.getElem_mem hlt)).2
            have HS := Lib.hid (cutK_succ l2 k hlt)
            generalize l2[k] = r at *
            have hk0 : (0 : Int) ≤ (k : Int) := by omega
            have hk1 : (k : Int) < (l2.length : Int) := by omega
            have hsz := hE.size
            clear h2
            go_wp2_with fail
            go_region_law (first
              | (refine step_append_lies _ (by rfl) _ _ _ (by rfl) w2.heap.size 28 i0 _ 4 40 Try.underlying34 hi hz0 hz1 hz2 rfl (by omega) _ k ((cutK l2 k).flatMap Rc.cells) (by rfl) (hown.drew.alloc _) ⟨wr.heap.size, 0, none⟩ 1 1 (cutR r).cells (by rfl) (by rfl) (World.news_of_block (cs := #[.int .i64 0, .int .i64 0, .int .i64 r.time, .string (bs (r.pay.take 100))]) (t := 28) (fr := (0, 0)) (heap_alloc_new wr.drew _)) (by intro u hu; simp [Rc.cells, strV] at hu; rcases hu with rfl | rfl | rfl | rfl <;> rfl) (by omega) (by unfold maxLen; omega) (by omega) (by simp; omega) (wr.heap.size + 1) (by simp) ?_; intro gg cap w3 hown3 hgrow hat hltg)
              | (go_simp; go_at_call 22; refine (short15_calls r.pay 100 _ hpk (by omega)).mono ?_; rintro e w4 ⟨rfl, rfl⟩))
            all_goals
              have hE3 : Ext w2 w3 := ((hE.drew).alloc _).grown hgrow (by simp; omega) (fun g hg => (hown.lt g hg).1)
              rw [← HS.out] at hown3
              clear hgrow hown hat
              go_wp2_with fail
              go_roundw
              case rel => exact ⟨k + 1, by omega, by omega, by go_num, hown3, hE3⟩
              case measure => simp [intOf]; omega
          · have hmin : k = min l2.length 12 := by omega
            rcases (show (¬ k < l2.length) ∨ (k < l2.length ∧ ¬ k < 12) from by omega) with hn | ⟨hp, hn⟩
            all_goals
              have hklen := cutK_length l2 k hk
              have hkpay := cutK_pay l2 k
              obtain ⟨X2, c2, rfl, hF2, hN2⟩ := own_slice hown
              have hE2 := hE1.trans hE
              have hF1' := hF1.ext hE
              generalize cutK l2 k = m2 at *
              have hm2 : m2.length ≤ 12 := by omega
              subst hklen
              clear hmin hown hF1 hE hlt h2 q2
              have hr1 := Rc.row_length 100 m1 hpay1
              have hr2 := Rc.row_length 100 m2 hkpay
              have hsum : Rc.row (m1 ++ m2) = Rc.row m1 ++ Rc.row m2 := Rc.row_append m1 m2
              have HSUM := Lib.hid hsum
              have hrs : (Rc.row (m1 ++ m2)).length ≤ 2832 := by rw [hsum, List.length_append]; omega
              have hpay12 : ∀ r ∈ m1 ++ m2, r.pay.length ≤ 100 := by
                intro r hr
                rcases List.mem_append.1 hr with h | h
                · exact hpay1 r h
                · exact hkpay r h
              clear hsum
              have hl1 := cells_length m1
              have hl2 := cells_length m2
              generalize wr = w3 at *
              go_wp2_with (first
                | (at_builtin; refine append_fr rfl _ _ 34 rfl w3.heap.size 28 i0 _ 4 40 Try.underlying34 hi hz0 hz1 hz2 rfl (by decide) (.slice none 0 0) 0 [] rfl (World.ownsRow_nil _ _ _ _) X1 _ m1.length c1 (m1.flatMap Rc.cells) rfl hl1 hF1' hN1 (cells_one m1) (by unfold maxLen; omega) (by omega) (Nat.le_refl _) ?_; intro v4 w4 hown4 hgrow4; have e4 : Ext w3 w4 := (Ext.refl w3).grown hgrow4 (Nat.le_refl _) (by intro g hg; simp [Value.ownBlock] at hg); have hF24 := hF2.ext e4)
                | (at_builtin; refine append_fr rfl _ _ 34 rfl w3.heap.size 28 i0 _ 4 40 Try.underlying34 hi hz0 hz1 hz2 rfl (by decide) v4 (0 + m1.length) ([] ++ m1.flatMap Rc.cells) rfl hown4 X2 _ m2.length c2 (m2.flatMap Rc.cells) rfl hl2 hF24 hN2 (cells_one m2) (by unfold maxLen; omega) (by omega) e4.size ?_; intro v5 w5 hown5 hgrow5; have e5 : Ext w3 w5 := e4.grown hgrow5 e4.size (fun g hg => (hown4.lt g hg).1); rw [List.nil_append, Nat.zero_add, ← List.length_append, ← List.flatMap_append] at hown5; obtain ⟨X5, c5, rfl, hF5, hN5⟩ := own_slice hown5; have hm12 : (m1 ++ m2).length ≤ 24 := (by rw [List.length_append]; omega); generalize m1 ++ m2 = mm at *))
              have hF25 := hF2.ext e5
              have hF15 := hF1'.ext e5
              have hE5 := hE2.trans e5
              clear hown4 hgrow4 e4 e5 hF24 hF1' hF2
              (with_reducible refine (recRow_calls w5.heap.size X5 c5 mm _ hF5.rd (Nat.le_refl _) (by omega) (fun r hr => by have := hpay12 r hr; omega) (by omega)).mono ?_); rintro e w6 ⟨rfl, e6⟩
              go_wp2_with fail
              (with_reducible refine (recRow_calls w6.heap.size X1 c1 m1 _ (hF15.ext e6).rd (Nat.le_refl _) (by omega) (fun r hr => by have := hpay1 r hr; omega) (by omega)).mono ?_); rintro e w7 ⟨rfl, e7⟩
              go_wp2_with fail
              (with_reducible refine (recRow_calls w7.heap.size X2 c2 m2 _ ((hF25.ext e6).ext e7).rd (Nat.le_refl _) (by omega) (fun r hr => by have := hkpay r hr; omega) (by omega)).mono ?_); rintro e w8 ⟨rfl, e8⟩
              rw [HSUM.out]
              have hlr : ¬ (9223372036854775807 < (Rc.row m1).length + (Rc.row m2).length) := by omega
              go_wp2_with fail
              refine (recRow_calls 0 none 0 [] _ Rd.nil (Nat.zero_le _) (by simp) (by simp) (by simp [Rc.row])).mono ?_; rintro e w9 ⟨rfl, e9⟩
              rw [show Rc.row [] = [] from rfl]
              go_wp2_with fail
              go_ret
              exact ⟨rfl, hE5.trans (e6.trans (e7.trans (e8.trans e9)))⟩

set_option maxRecDepth 100000 in
theorem lifted (os : Os) (started : os.Started) (H : Type) (enc : TypeId × Value → H) :
    ReturnsInHanded {} Try.checked os 5 .any (Rows.recordJoinsSpec.pre6 enc Try.prog Try.f5 Rows.recordJoinsRow.domain false) (Rows.recordJoinsSpec.post enc Try.prog Try.f5 false true false false) := by
  refine returnsInHanded_of_change (C := Try.checked) own_ started (by kernel_rfl) Try.func5
    (ChangeSpec.witness6 (enc := enc) (C := Try.checked) false ⟨#[], #[.slice none 0 0, .slice none 0 0], []⟩ 8 (by kernel_rfl) (by kernel_rfl) (by kernel_rfl) (by kernel_rfl)) ?_
  intro W base args ds gs before hval0 hW hcnd _
  have hval : ∀ (j : Nat) t v, Try.f5.params[j]? = some t → args[j]? = some v → Value.okWide Try.prog W .any base t v := hval0
  have hW' := hW
  obtain ⟨p, q, hA0, hV, rfl, hfz, hnd⟩ := hW
  have hA : DataW.TrodAll enc Try.prog W 0 (fun _ => true) true Try.f5.params.toList args.toList ds p := hA0
  rw [Try.params5] at hA hval
  obtain ⟨v0, vs0, d0, ds0, p0, q0, hargs, rfl, rfl, hx0, r0⟩ := trodAll_cons hA
  obtain ⟨v1, vs1, d1, ds1, p1, q1, rfl, rfl, rfl, hx1, r1⟩ := trodAll_cons r0
  obtain ⟨rfl, rfl, rfl⟩ := trodAll_nil r1
  obtain rfl : args = #[v0, v1] := by cases args; simp_all
  obtain ⟨rfl, rfl⟩ := trodVars_none hV
  obtain ⟨Aa, ca, a, rfl, har, hac, ham, haw⟩ := op_recs (hval 0 34 v0 rfl rfl) (tr_of hx0)
  obtain ⟨Ab, cb, b, rfl, hbr, hbc, hbm, hbw⟩ := op_recs (hval 1 34 v1 rfl rfl) (tr_of hx1)
  refine (walk W.heap.size Aa Ab ca cb a b W (Nat.le_refl _) har (by omega) haw hbr (by omega) hbw).mono fun e W' ⟨he, hg⟩ => ?_
  subst he
  exact ⟨_, rfl, law_post hW' rfl rfl (by kernel_rfl) rfl rfl rfl hg⟩

theorem over : Rows.recordJoinsRow.holds Try.pinned (OpenSpec.ofChange Rows.recordJoinsSpec) :=
  OpenClaim.holds_of_wide 5 Try.f5 rfl rfl rfl rfl rfl rfl rfl ⟨rfl, rfl, rfl, rfl, rfl⟩ rfl rfl rfl rfl rfl (by kernel_rfl) Try.func5 (by kernel_rfl)
    (of_decide_eq_true (by kernel_rfl)) (by unfold Func.isWrapper; first | (rw [if_pos (by decide +kernel)]; kernel_rfl) | (rw [if_neg (by decide +kernel)]; exact ⟨rfl, rfl⟩))
    (fun os started H enc _ => lifted os started H enc)

theorem proved : Rows.RecordJoinsSaid := over

end Go.Proofs.Ytnpmojfjoemelaa.recordJoins
