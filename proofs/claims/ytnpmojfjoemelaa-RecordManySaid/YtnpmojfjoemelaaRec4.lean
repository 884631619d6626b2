/-
  The walks of layer 15 (record): reading rows.
-/
import Derived.Test.YtnpmojfjoemelaaRec3
set_option linter.unusedVariables false
set_option linter.unusedSimpArgs false
namespace Go.Proofs.Ytnpmojfjoemelaa
open Go.RowKit
attribute [local go_sem] bs_size bs_toList2 bs_append bs_extract_end bs_extract_begin bs_get wrap64_b

namespace Rc
/-- Rows: what is read from number k on, f steps at most; none: it is refused. -/
def prs (win : Int) : Nat → Nat → Oct.Sc → Option (List Rc)
  | 0, _, _ => none
  | f + 1, k, x =>
    if x.leftN = 0 then (if x.endE = 0 then some [] else none)
    else if 0 ≤ win ∧ win ≤ 1125899906842624 ∧ k ≤ 3999 then
      (prs win f (k + 1) ((x.num 1125899906842624).2.text 2000).2).map (⟨win, k, (x.num 1125899906842624).1, ((x.num 1125899906842624).2.text 2000).1⟩ :: ·)
    else none
def rows (win : Int) (s : List UInt8) : List Rc × Int :=
  match prs win (s.length + 1) 0 ⟨s, false⟩ with
  | some l => (l, 0)
  | none => ([], 10)
theorem prs_end (win : Int) (f k : Nat) (x : Oct.Sc) (h : x.leftN = 0) : prs win (f + 1) k x = if x.endE = 0 then some [] else none := by rw [prs, if_pos h]
theorem prs_go (win : Int) (f k : Nat) (x : Oct.Sc) (h : x.leftN ≠ 0) (hw : 0 ≤ win ∧ win ≤ 1125899906842624 ∧ k ≤ 3999) :
    prs win (f + 1) k x = (prs win f (k + 1) ((x.num 1125899906842624).2.text 2000).2).map (⟨win, k, (x.num 1125899906842624).1, ((x.num 1125899906842624).2.text 2000).1⟩ :: ·) := by rw [prs, if_neg h, if_pos hw]
theorem prs_bad (win : Int) (f k : Nat) (x : Oct.Sc) (h : x.leftN ≠ 0) (hw : ¬ (0 ≤ win ∧ win ≤ 1125899906842624 ∧ k ≤ 3999)) : prs win (f + 1) k x = none := by rw [prs, if_neg h, if_neg hw]
/-- The step leaves less. -/
theorem step_left (x : Oct.Sc) (h : x.leftN ≠ 0) : ((x.num 1125899906842624).2.text 2000).2.leftN < x.leftN := by
  have hx : x.leftN = x.left.length := by
    unfold Oct.Sc.leftN at h ⊢
    split
    · rename_i hs; rw [if_pos hs] at h; simp at h
    · rfl
  cases hsp : ((x.num 1125899906842624).2.text 2000).2.spoil
  · have h1 := Oct.text_sound _ _ hsp
    have h2 := Oct.num_sound _ _ h1.1
    unfold Oct.Sc.leftN
    rw [if_neg (by simp [hsp]), if_neg (by simp [h2.1])]
    omega
  · have : ((x.num 1125899906842624).2.text 2000).2.leftN = 0 := by unfold Oct.Sc.leftN; rw [if_pos hsp]
    omega
theorem text_most (x : Oct.Sc) (most : Int) (h : 0 ≤ most) : ((x.text most).1.length : Int) ≤ most := by
  unfold Oct.Sc.text
  split
  · simpa using h
  · have h1 := Oct.num_le x most h
    have h2 := Oct.num_nonneg x most
    simp only [Oct.Sc.take]
    split
    · simpa using h
    · split
      · simpa using h
      · simp; omega
theorem leftN_pos (x : Oct.Sc) (h : x.leftN ≠ 0) : x.leftN = x.left.length := by
  unfold Oct.Sc.leftN at h ⊢
  split
  · rename_i hs; rw [if_pos hs] at h; simp at h
  · rfl
theorem leftN_le (x : Oct.Sc) : x.leftN ≤ x.left.length := by unfold Oct.Sc.leftN; split <;> omega
end Rc
/-- What is left, as the world tells. -/
def scLeft (w : World) (g : Nat) : Nat := match w.cell? ⟨g, 1, none⟩, w.cell? ⟨g, 0, none⟩ with
  | some (.bool false), some (.string b) => b.size
  | _, _ => 0
theorem scLeft_at {w : World} {g : Nat} {x : Oct.Sc} (h : ScAt w g x) : scLeft w g = x.leftN := by
  obtain ⟨l, sp⟩ := x
  have c0 : w.cell? ⟨g, 0, none⟩ = some (.string (bs l)) := Blk.cell h 0
  have c1 : w.cell? ⟨g, 1, none⟩ = some (.bool sp) := Blk.cell h 1
  unfold scLeft
  rw [c0, c1]
  cases sp
  · simp [Oct.Sc.leftN, bs_size]
  · rfl
theorem num_range (x : Oct.Sc) : 0 ≤ (x.num 1125899906842624).1 ∧ (x.num 1125899906842624).1 ≤ 1125899906842624 := ⟨Oct.num_nonneg _ _, Oct.num_le _ _ (by omega)⟩

set_option maxRecDepth 100000 in
set_option maxHeartbeats 1000000 in
theorem own_slice {w : World} {base size n : Nat} {e : TypeId} {v : Value} {xs : List Value} (h : w.ownsRow base e size v n xs) : ∃ A c, v = .slice A n c ∧ Fr w base A xs ∧ (A = none → n = 0 ∧ c = 0) := by
  rcases h.2 with ⟨rfl, h0⟩ | ⟨gg, cap, cur, rfl, _⟩
  · subst h0
    exact ⟨none, 0, rfl, Fr.of_own h, fun _ => ⟨rfl, rfl⟩⟩
  · exact ⟨some ⟨gg, 0, none⟩, cap, rfl, Fr.of_own h, fun e => by cases e⟩
theorem Fr.low {w : World} {a b : Nat} {A : Option Addr} {xs : List Value} (h : Fr w b A xs) (hab : a ≤ b) : Fr w a A xs := fun hx => by
  obtain ⟨bb, off, e, h1, h2, hc⟩ := h hx
  exact ⟨bb, off, e, Nat.le_trans hab h1, h2, hc⟩

theorem info_rec : (Try.prog.info? 28).map (fun i => (i.zero, i.size, i.bytes)) = some (some (.agg #[.int .i64 0, .int .i64 0, .int .i64 0, .string .empty]), 4, 40) := by kernel_rfl

set_option maxRecDepth 100000 in
set_option maxHeartbeats 1000000 in
theorem recRows_calls (win : Int) (s : List UInt8) (w : World) (hl : s.length ≤ 1099511627776) :
    Calls Try.prog 49 #[.int .i64 win, .string (bs s)] w fun e w' => ∃ A c, e = .returned (.tuple #[.slice A (Rc.rows win s).1.length c, .int .i64 (Rc.rows win s).2]) ∧ Fr w' w.heap.size A ((Rc.rows win s).1.flatMap Rc.cells) ∧ Ext w w' := by
  obtain ⟨i0, hi, hz0, hz1, hz2⟩ := info_parts info_rec
  go_enter Try.func49, Try.ntmps49
  go_wp2
  go_step3
  go_wp2_with fail
  refine (Read_some s _).mono ?_; rintro e w2 ⟨g, rfl, hg, hS, e2⟩
  go_wp2_with fail
  go_step3
  go_wp2_with fail
  go_loopw [7, 8] (fun o ev wr => ∃ (f k : Nat) (x : Oct.Sc) (acc : List Rc), ev = .int .i64 0 ∧ acc.length = k ∧ k + x.leftN ≤ s.length ∧ x.left.length ≤ s.length ∧ x.leftN < f ∧ Hid (Rc.prs win (s.length + 1) 0 ⟨s, false⟩ = (Rc.prs win f k x).map (acc ++ ·)) ∧
      ScAt wr g x ∧ wr.ownsRow (g + 1) 28 4 o k (acc.flatMap Rc.cells) ∧ g + 1 ≤ wr.heap.size ∧ Ext w wr) (fun _ _ wr => scLeft wr g)
  case atStart => exact ⟨s.length + 1, 0, ⟨s, false⟩, [], rfl, rfl, by simp [Oct.Sc.leftN], Nat.le_refl _, by simp [Oct.Sc.leftN], by simp [Hid], hS, World.ownsRow_nil _ _ _ _, Blk.lt hS, e2⟩
  case round =>
    obtain ⟨f, k, x, acc, rfl, rfl, hk, hxl, hf, HT, hX, hown, hsz, hE⟩ := hrel
    clear hS e2
    have hms := scLeft_at hX
    obtain ⟨f, rfl⟩ : ∃ f', f = f' + 1 := ⟨f - 1, by omega⟩
    have HL := Lib.hid (Left_calls g x wr hX (by omega))
    by_cases h0 : x.leftN = 0
    · have hp := HT.out
      rw [Rc.prs_end _ _ _ _ h0] at hp
      have hd : decide ((0 : Int) < (x.leftN : Int)) = false := by simp; omega
      go_wp2_with fail
      refine HL.out.mono ?_; rintro e w3 ⟨rfl, rfl⟩
      rw [h0]
      go_wp2_with fail
      refine (End_calls g x _ hX).mono ?_; rintro e w3 ⟨rfl, rfl⟩
      rcases (show (x.endE = 0 ∧ (x.endE != 0) = false) ∨ (x.endE ≠ 0 ∧ (x.endE != 0) = true) from by
        by_cases h : x.endE = 0
        · exact .inl ⟨h, by simp [h]⟩
        · exact .inr ⟨h, by simp [h]⟩) with ⟨k1, k2⟩ | ⟨k1, k2⟩
      · rw [if_pos k1] at hp
        have hrows : Rc.rows win s = (acc, 0) := by unfold Rc.rows; rw [hp]; simp
        have HR := Lib.hid hrows
        clear hrows hp k1 HT
        obtain ⟨A, c, rfl, hF, _⟩ := own_slice hown
        go_wp2_with fail
        rw [Exit.noGoto_ret]
        go_ret2
        rw [HR.out]
        exact ⟨A, c, rfl, hF.low (by omega), hE⟩
      · rw [if_neg k1] at hp
        have hrows : Rc.rows win s = ([], 10) := by unfold Rc.rows; rw [hp]; simp
        have HR := Lib.hid hrows
        clear hrows hp k1 HT
        go_wp2_with fail
        rw [Exit.noGoto_ret]
        go_ret2
        rw [HR.out]
        exact ⟨none, 0, rfl, Fr.nil, hE⟩
    · have h0' := Rc.leftN_pos x h0
      have hgl := Blk.lt hX
      go_wp2_with fail
      refine HL.out.mono ?_; rintro e w3 ⟨rfl, rfl⟩
      have hng := own_blk_ne hown hX (by decide)
      have hst := Rc.step_left x h0
      have hrg := num_range x
      have hpl := Rc.text_most (x.num 1125899906842624).2 2000 (by omega)
      have hnl := Oct.num_left_le x 1125899906842624
      have htl := Oct.text_left_le (x.num 1125899906842624).2 2000
      have hcase : ((0 ≤ win ∧ win ≤ 1125899906842624 ∧ acc.length ≤ 3999) ∧ Rc.check ⟨win, acc.length, (x.num 1125899906842624).1, ((x.num 1125899906842624).2.text 2000).1⟩ = 0 ∧ Hid (Rc.prs win (s.length + 1) 0 ⟨s, false⟩ = (Rc.prs win f (acc.length + 1) ((x.num 1125899906842624).2.text 2000).2).map ((acc ++ [⟨win, acc.length, (x.num 1125899906842624).1, ((x.num 1125899906842624).2.text 2000).1⟩]) ++ ·))) ∨
          (Rc.check ⟨win, acc.length, (x.num 1125899906842624).1, ((x.num 1125899906842624).2.text 2000).1⟩ = 1 ∧ Hid (Rc.rows win s = ([], 10))) := by
        have hp := HT.out
        by_cases hw : 0 ≤ win ∧ win ≤ 1125899906842624 ∧ acc.length ≤ 3999
        · refine .inl ⟨hw, (Rc.check_0 _ (by unfold Rc.may; simp only; omega) (by simp only; omega)).symm, ?_⟩
          unfold Hid
          rw [hp, Rc.prs_go _ _ _ _ h0 hw, Option.map_map]
          congr 1
          funext l
          simp
        · refine .inr ⟨(Rc.check_1 _ (by unfold Rc.may; simp only; omega)).symm, ?_⟩
          rw [Rc.prs_bad _ _ _ _ h0 hw] at hp
          unfold Hid Rc.rows
          rw [hp]; simp
      clear HT
      obtain ⟨A, c, rfl, hF, hN⟩ := own_slice hown
      have hneR : (Value.slice A acc.length c).ownBlock ≠ some wr.heap.size := fun e => by have := hown.lt _ e; omega
      go_wp2_with fail
      refine (Num_calls g x 1125899906842624 _ (Blk.alloc hX _) (by omega) (by omega) (by omega)).mono ?_; rintro e w4 ⟨rfl, hS4, hu4⟩
      generalize x.num 1125899906842624 = a at *
      have hr4 : RecAt w4 wr.heap.size ⟨win, acc.length, 0, []⟩ := Blk.grown (Blk.new wr _ _) hu4 (by simp; omega)
      have hown4 := World.ownsRow.kept (hown.alloc (.cells #[.int .i64 win, .int .i64 acc.length, .int .i64 0, .string ⟨#[]⟩] 28)) hu4 (.inr hng)
      have E4 := (hE.alloc (.cells #[.int .i64 win, .int .i64 acc.length, .int .i64 0, .string ⟨#[]⟩] 28)).upd hu4 hg
      have hz4 := hr4.lt
      clear hown hu4 hE
      obtain ⟨d0, d1, d2, d3⟩ := hr4.cells
      obtain ⟨f0, f1, f2, f3⟩ := hr4.frozen
      go_wp2_with fail
      refine (ScText_calls g _ 2000 _ (Blk.far hS4 (p := ⟨wr.heap.size, 2, none⟩) (by simp; omega) _) (by omega) (by omega) (by omega)).mono ?_; rintro e w5 ⟨rfl, hS5, hu5⟩
      generalize a.2.text 2000 = d at *
      have hr5 : RecAt w5 wr.heap.size ⟨win, acc.length, a.1, []⟩ := Blk.grown (hr4.time a.1) hu5 (by simp; omega)
      have hown5 := World.ownsRow.kept (World.ownsRow.kept hown4 (row := some wr.heap.size) ((Upd.refl wr.heap.size w4).setCell (p := ⟨wr.heap.size, 2, none⟩) (.inl rfl) (.int .i64 a.1)) (.inr hneR)) hu5 (.inr hng)
      have E5 := (E4.setCell (p := ⟨wr.heap.size, 2, none⟩) (by simp; omega) (.int .i64 a.1)).upd hu5 hg
      clear hown4 hu5 E4 hr4 hS4 d0 d1 d2 d3 f0 f1 f2 f3
      obtain ⟨d0, d1, d2, d3⟩ := hr5.cells
      obtain ⟨f0, f1, f2, f3⟩ := hr5.frozen
      go_wp2_with fail
      refine (Check_calls ⟨win, acc.length, a.1, d.1⟩ _ (by simp only; omega)).mono ?_; rintro e w6 ⟨rfl, e6⟩
      have hr6 := (hr5.pay d.1).ext e6
      have hS6 := ScAt.ext (Blk.far hS5 (p := ⟨wr.heap.size, 3, none⟩) (by simp; omega) (.string (bs d.1))) e6
      have hown6 := owns_ext (World.ownsRow.kept hown5 (row := some wr.heap.size) ((Upd.refl wr.heap.size w5).setCell (p := ⟨wr.heap.size, 3, none⟩) (.inl rfl) (.string (bs d.1))) (.inr hneR)) e6
      have E6 := (E5.setCell (p := ⟨wr.heap.size, 3, none⟩) (by simp; omega) (.string (bs d.1))).trans e6
      clear hown5 E5 hr5 hS5 d0 d1 d2 d3 f0 f1 f2 f3 e6
      obtain ⟨d0, d1, d2, d3⟩ := hr6.cells
      simp only at d0 d1 d2 d3
      rcases hcase with ⟨hw, hc, HT'⟩ | ⟨hc, HR⟩
      · rw [hc]
        have hz6 : g + 1 ≤ w6.heap.size := Blk.lt hS6
        go_wp2_with (at_builtin; refine wpList_append_own _ rfl _ _ 34 rfl (g + 1) 28 i0 _ 4 40 Try.underlying34 hi hz0 hz1 hz2 rfl (by decide) (.slice A acc.length c) acc.length (acc.flatMap Rc.cells) rfl (hown6.alloc _) ⟨w6.heap.size, 0, none⟩ 1 1 (Rc.cells ⟨win, acc.length, a.1, d.1⟩) rfl rfl (World.news_of_block (cs := #[.int .i64 win, .int .i64 acc.length, .int .i64 a.1, .string (bs d.1)]) (t := 28) (fr := (0, 0)) (heap_alloc_new w6 _)) (by intro u hu; simp [Rc.cells, strV] at hu; rcases hu with rfl | rfl | rfl | rfl <;> rfl) (by unfold maxLen; omega) (by omega) (by simp; omega) ?_; intro v7 w7 hown7 hgrow7 _)
        have hng6 : (Value.slice A acc.length c).ownBlock ≠ some g := hng
        have hS7 : ScAt w7 g d.2 := Blk.grown (Blk.alloc hS6 _) hgrow7 (fun e => hng6 e.symm)
        have E7 : Ext w w7 := (E6.alloc (.cells #[.int .i64 win, .int .i64 acc.length, .int .i64 a.1, .string (bs d.1)] 28)).grown hgrow7 (by have := E6.size; simp; omega) (fun i hi => by have := (hown6.lt i hi).1; omega)
        have hown8 : w7.ownsRow (g + 1) 28 4 v7 (acc.length + 1) ((acc ++ [(⟨win, acc.length, a.1, d.1⟩ : Rc)]).flatMap Rc.cells) := by
          rw [List.flatMap_append]
          simpa using hown7
        have hz7 : g + 1 ≤ w7.heap.size := Blk.lt hS7
        have hms7 := scLeft_at hS7
        clear hown6 hown7 hgrow7 hr6 hS6 E6 d0 d1 d2 d3
        go_wp2
        go_roundw
        case rel => exact ⟨f, acc.length + 1, d.2, acc ++ [⟨win, acc.length, a.1, d.1⟩], rfl, by simp, by omega, by omega, by omega, HT', hS7, hown8, hz7, E7⟩
        case measure => rw [hms7, hms]; exact hst
      · rw [hc]
        go_wp2_with fail
        rw [Exit.noGoto_ret]
        go_ret2
        rw [HR.out]
        exact ⟨none, 0, rfl, Fr.nil, E6⟩

/-- What is left, as the world tells. -/
def rfLeftM (w : World) (g : Nat) : Nat := match w.cell? ⟨g, 2, none⟩, w.cell? ⟨g, 0, none⟩, w.cell? ⟨g, 1, none⟩ with
  | some (.bool false), some (.string b), some (.int _ m) => b.size - m.toNat
  | _, _, _ => 0
theorem rfLeftM_at {w : World} {g : Nat} {s : List UInt8} {x : Oct.Sc} (h : RfAt w g s x) : rfLeftM w g = x.leftN := by
  obtain ⟨m, h1, h2, h3⟩ := h
  obtain ⟨l, sp⟩ := x
  have c0 : w.cell? ⟨g, 0, none⟩ = some (.string (bs s)) := Blk.cell h2 0
  have c1 : w.cell? ⟨g, 1, none⟩ = some (.int .i64 m) := Blk.cell h2 1
  have c2 : w.cell? ⟨g, 2, none⟩ = some (.bool sp) := Blk.cell h2 2
  unfold rfLeftM
  rw [c0, c1, c2]
  cases sp
  · obtain rfl := h3 rfl
    simp [Oct.Sc.leftN, bs_size]
  · rfl
theorem RfAt.far {w : World} {g : Nat} {s : List UInt8} {x : Oct.Sc} (h : RfAt w g s x) {p : Addr} (hp : g ≠ p.block) (u : Value) : RfAt (w.setCell p u) g s x := by
  obtain ⟨m, h1, h2, h3⟩ := h
  exact ⟨m, h1, Blk.far h2 hp u, h3⟩
theorem RfAt.blk {w : World} {g : Nat} {s : List UInt8} {x : Oct.Sc} (h : RfAt w g s x) : ∃ cs, Blk w g 55 cs := by
  obtain ⟨m, h1, h2, h3⟩ := h
  exact ⟨_, h2⟩
theorem RfAt.frozen2 {w : World} {g : Nat} {s : List UInt8} {x : Oct.Sc} (h : RfAt w g s x) : (∃ b, w.cell? ⟨g, 2, none⟩ = some (.bool b)) ∧ w.frozen? ⟨g, 2, none⟩ = false := by
  obtain ⟨m, h1, h2, h3⟩ := h
  exact ⟨⟨_, Blk.cell h2 2⟩, h2.frozen 2⟩

/-- What the loop of the document's Rows keeps. -/
def RRel (win : Int) (s : List UInt8) (f : Nat) (acc : List Rc) (x : Oct.Sc) : Prop :=
  (Rc.prs win (s.length + 1) 0 ⟨s, false⟩ = (Rc.prs win f acc.length x).map (acc ++ ·) ∧ x.leftN < f ∧ acc.length + x.leftN ≤ s.length ∧ (x.leftN = 0 ∨ (0 ≤ win ∧ win ≤ 1125899906842624))) ∨ (Rc.rows win s = ([], 10) ∧ x.spoil = true ∧ acc.length ≤ s.length + 1)
theorem rrel_start_ok (win : Int) (s : List UInt8) (h : 0 ≤ win ∧ win ≤ 1125899906842624) : RRel win s (s.length + 1) [] ⟨s, false⟩ := .inl ⟨by simp, by simp [Oct.Sc.leftN], by simp [Oct.Sc.leftN], .inr h⟩
theorem rrel_start_bad (win : Int) (s : List UInt8) (h : ¬ (0 ≤ win ∧ win ≤ 1125899906842624)) : RRel win s (s.length + 1) [] ⟨s, !s.isEmpty⟩ := by
  rcases s with _ | ⟨c, r⟩
  · exact .inl ⟨by simp, by simp [Oct.Sc.leftN], by simp [Oct.Sc.leftN], .inl (by simp [Oct.Sc.leftN])⟩
  · refine .inr ⟨?_, rfl, by simp⟩
    unfold Rc.rows
    rw [Rc.prs_bad _ _ _ _ (by simp [Oct.Sc.leftN]) (by omega)]
theorem rrel_end {win : Int} {s : List UInt8} {f : Nat} {acc : List Rc} {x : Oct.Sc} (h : RRel win s f acc x) (h0 : x.leftN = 0) : Rc.rows win s = if x.endE = 0 then (acc, 0) else ([], 10) := by
  rcases h with ⟨h1, h2, _⟩ | ⟨h1, h2, _⟩
  · obtain ⟨f, rfl⟩ : ∃ f', f = f' + 1 := ⟨f - 1, by omega⟩
    rw [Rc.prs_end _ _ _ _ h0] at h1
    by_cases he : x.endE = 0
    · rw [if_pos he] at h1 ⊢
      unfold Rc.rows
      rw [h1]; simp
    · rw [if_neg he] at h1 ⊢
      unfold Rc.rows
      rw [h1]; simp
  · rw [h1, if_neg (by simp [Oct.Sc.endE, h2])]
theorem rrel_step {win : Int} {s : List UInt8} {f : Nat} {acc : List Rc} {x : Oct.Sc} (h : RRel win s f acc x) (h0 : x.leftN ≠ 0) :
    acc.length + 1 ≤ s.length ∧ ((acc.length ≤ 3999 ∧ RRel win s (f - 1) (acc ++ [⟨win, acc.length, (x.num 1125899906842624).1, ((x.num 1125899906842624).2.text 2000).1⟩]) ((x.num 1125899906842624).2.text 2000).2) ∨
      (3999 < acc.length ∧ RRel win s (f - 1) (acc ++ [⟨win, acc.length, (x.num 1125899906842624).1, ((x.num 1125899906842624).2.text 2000).1⟩]) ((x.num 1125899906842624).2.text 2000).2.bad)) := by
  have hl := Rc.leftN_pos x h0
  rcases h with ⟨h1, h2, h3, h4⟩ | ⟨h1, h2, _⟩
  · obtain ⟨f, rfl⟩ : ∃ f', f = f' + 1 := ⟨f - 1, by omega⟩
    refine ⟨by omega, ?_⟩
    have hst := Rc.step_left x h0
    have hwin : 0 ≤ win ∧ win ≤ 1125899906842624 := h4.resolve_left h0
    by_cases hk : acc.length ≤ 3999
    · refine .inl ⟨hk, .inl ⟨?_, by rw [Nat.add_sub_cancel]; omega, by simp; omega, .inr hwin⟩⟩
      rw [h1, Rc.prs_go _ _ _ _ h0 ⟨hwin.1, hwin.2, hk⟩, Option.map_map, Nat.add_sub_cancel]
      have : (acc ++ [(⟨win, acc.length, (x.num 1125899906842624).1, ((x.num 1125899906842624).2.text 2000).1⟩ : Rc)]).length = acc.length + 1 := by simp
      rw [this]
      congr 1
      funext l
      simp
    · refine .inr ⟨by omega, .inr ⟨?_, rfl, by simp; omega⟩⟩
      unfold Rc.rows
      rw [h1, Rc.prs_bad _ _ _ _ h0 (by omega)]; simp
  · exfalso
    apply h0
    simp [Oct.Sc.leftN, h2]

set_option maxRecDepth 100000 in
set_option maxHeartbeats 1000000 in
theorem refRows_calls (win : Int) (s : List UInt8) (w : World) (hl : s.length ≤ 1099511627776) :
    Calls Try.prog 53 #[.int .i64 win, .string (bs s)] w fun e w' => ∃ A c, e = .returned (.tuple #[.slice A (Rc.rows win s).1.length c, .int .i64 (Rc.rows win s).2]) ∧ Fr w' w.heap.size A ((Rc.rows win s).1.flatMap Rc.cells) ∧ Ext w w' := by
  obtain ⟨i0, hi, hz0, hz1, hz2⟩ := info_parts info_rec
  go_enter Try.func53, Try.ntmps53
  go_wp2_with fail
  all_goals
    go_loopw [7] (fun o wr => ∃ (f : Nat) (x : Oct.Sc) (acc : List Rc), x.left.length ≤ s.length ∧ Hid (RRel win s f acc x) ∧
      RfAt wr w.heap.size s x ∧ wr.ownsRow (w.heap.size + 1) 28 4 o acc.length (acc.flatMap Rc.cells) ∧ w.heap.size + 1 ≤ wr.heap.size ∧ Ext w wr) (fun _ wr => rfLeftM wr w.heap.size)
    case atStart => first
      | exact ⟨s.length + 1, ⟨s, false⟩, [], Nat.le_refl _, rrel_start_ok win s (by omega), ⟨0, Nat.zero_le _, Blk.new _ _ _, fun _ => rfl⟩, World.ownsRow_nil _ _ _ _, by simp, (Ext.refl w).alloc _⟩
      | exact ⟨s.length + 1, ⟨s, !s.isEmpty⟩, [], Nat.le_refl _, rrel_start_bad win s (by omega), ⟨0, Nat.zero_le _, Blk.new _ _ _, fun _ => rfl⟩, World.ownsRow_nil _ _ _ _, by simp, (Ext.refl w).alloc _⟩
    case round =>
      obtain ⟨f, x, acc, hxl, HT, hX, hown, hsz, hE⟩ := hrel
      have hms := rfLeftM_at hX
      have HL := Lib.hid (rfLeft_calls w.heap.size s x wr hX (by omega))
      by_cases h0 : x.leftN = 0
      · have hrows := rrel_end HT.out h0
        clear HT
        go_wp2_with fail
        refine HL.out.mono ?_; rintro e w3 ⟨rfl, z, rfl⟩
        rw [h0]
        go_wp2_with fail
        refine (rfEnd_calls w.heap.size s x _ (hX.drewN z) (by omega)).mono ?_; rintro e w3 ⟨rfl, z2, rfl⟩
        rcases (show (x.endE = 0 ∧ (x.endE != 0) = false) ∨ (x.endE ≠ 0 ∧ (x.endE != 0) = true) from by
          by_cases h : x.endE = 0
          · exact .inl ⟨h, by simp [h]⟩
          · exact .inr ⟨h, by simp [h]⟩) with ⟨k1, k2⟩ | ⟨k1, k2⟩
        · rw [if_pos k1] at hrows
          have HR := Lib.hid hrows
          clear hrows k1
          obtain ⟨A, c, rfl, hF, _⟩ := own_slice hown
          go_wp2_with fail
          go_ret2
          rw [HR.out]
          exact ⟨A, c, rfl, (hF.ext ((Ext.refl wr).drewN (z + z2))).low (by omega), hE.drewN _⟩
        · rw [if_neg k1] at hrows
          have HR := Lib.hid hrows
          clear hrows k1
          go_wp2_with fail
          go_ret2
          rw [HR.out]
          exact ⟨none, 0, rfl, Fr.nil, hE.drewN _⟩
      · have h0' := Rc.leftN_pos x h0
        obtain ⟨hk, hcase⟩ := rrel_step HT.out h0
        clear HT
        have hgl := hX.lt
        obtain ⟨cs0, hblk⟩ := hX.blk
        have hng := own_blk_ne hown hblk (by decide)
        clear hblk
        have hst := Rc.step_left x h0
        have hpl := Rc.text_most (x.num 1125899906842624).2 2000 (by omega)
        have hnl := Oct.num_left_le x 1125899906842624
        have htl := Oct.text_left_le (x.num 1125899906842624).2 2000
        obtain ⟨A, c, rfl, hF, hN⟩ := own_slice hown
        go_wp2_with fail
        refine HL.out.mono ?_; rintro e w3 ⟨rfl, z, hw3⟩
        have hms3 : rfLeftM wr w.heap.size = x.leftN := hms
        replace hX : RfAt w3 w.heap.size s x := by rw [hw3]; exact hX.drewN z
        replace hown : w3.ownsRow (w.heap.size + 1) 28 4 (.slice A acc.length c) acc.length (acc.flatMap Rc.cells) := by rw [hw3]; exact hown
        replace hE : Ext w w3 := by rw [hw3]; exact hE.drewN z
        replace hsz : w.heap.size + 1 ≤ w3.heap.size := by rw [hw3]; exact hsz
        replace hgl := hX.lt
        clear hw3 hF HL hms
        have hneR : (Value.slice A acc.length c).ownBlock ≠ some w3.heap.size := fun e => by have := hown.lt _ e; omega
        go_wp2_with fail
        refine (rfNum_calls w.heap.size s x 1125899906842624 _ (RfAt.alloc hX _) (by omega) (by omega) (by omega)).mono ?_; rintro e w4 ⟨rfl, hS4, hu4⟩
        generalize x.num 1125899906842624 = a at *
        have hr4 : RecAt w4 w3.heap.size ⟨win, acc.length, 0, []⟩ := Blk.grown (Blk.new (w3) _ _) hu4 (by simp; omega)
        have hown4 := World.ownsRow.kept (World.ownsRow.alloc hown (.cells #[.int .i64 win, .int .i64 acc.length, .int .i64 0, .string ⟨#[]⟩] 28)) hu4 (.inr hng)
        have E4 := (hE.alloc (.cells #[.int .i64 win, .int .i64 acc.length, .int .i64 0, .string ⟨#[]⟩] 28)).upd hu4 (Nat.le_refl _)
        have hz4 := hr4.lt
        clear hown hu4 hE hX
        obtain ⟨d0, d1, d2, d3⟩ := hr4.cells
        obtain ⟨f0, f1, f2, f3⟩ := hr4.frozen
        go_wp2_with fail
        refine (rfText_calls w.heap.size s _ 2000 _ (hS4.far (p := ⟨w3.heap.size, 2, none⟩) (by simp; omega) _) (by omega) (by omega) (by omega)).mono ?_; rintro e w5 ⟨rfl, hS5, hu5⟩
        generalize a.2.text 2000 = d at *
        have hr5 : RecAt w5 w3.heap.size ⟨win, acc.length, a.1, []⟩ := Blk.grown (hr4.time a.1) hu5 (by simp; omega)
        have hown5 := World.ownsRow.kept (World.ownsRow.kept hown4 (row := some w3.heap.size) ((Upd.refl w3.heap.size w4).setCell (p := ⟨w3.heap.size, 2, none⟩) (.inl rfl) (.int .i64 a.1)) (.inr hneR)) hu5 (.inr hng)
        have E5 := (E4.setCell (p := ⟨w3.heap.size, 2, none⟩) (by simp; omega) (.int .i64 a.1)).upd hu5 (Nat.le_refl _)
        clear hown4 hu5 E4 hr4 hS4 d0 d1 d2 d3 f0 f1 f2 f3
        have hr6 := hr5.pay d.1
        have hS6 := hS5.far (p := ⟨w3.heap.size, 3, none⟩) (by simp; omega) (.string (bs d.1))
        have hown6 := World.ownsRow.kept hown5 (row := some w3.heap.size) ((Upd.refl w3.heap.size w5).setCell (p := ⟨w3.heap.size, 3, none⟩) (.inl rfl) (.string (bs d.1))) (.inr hneR)
        have E6 := E5.setCell (p := ⟨w3.heap.size, 3, none⟩) (by simp; omega) (.string (bs d.1))
        obtain ⟨d0, d1, d2, d3⟩ := hr5.cells
        obtain ⟨f0, f1, f2, f3⟩ := hr5.frozen
        obtain ⟨⟨b2, g2⟩, h2⟩ := hS5.frozen2
        clear hown5 E5 hr5
        simp only at d0 d1 d2 d3
        rcases hcase with ⟨hk2, HT'⟩ | ⟨hk2, HT'⟩
        · have HT2 := Lib.hid HT'
          clear HT'
          have hnw : (((w5.setCell ⟨w3.heap.size, 3, none⟩ (.string (bs d.1))).alloc (.cells #[.int .i64 win, .int .i64 acc.length, .int .i64 a.1, .string (bs d.1)] 28)).heap[w5.heap.size]?) = some (.cells #[.int .i64 win, .int .i64 acc.length, .int .i64 a.1, .string (bs d.1)] 28 (0, 0)) := by
            have := heap_alloc_new (w5.setCell ⟨w3.heap.size, 3, none⟩ (.string (bs d.1))) (.cells #[.int .i64 win, .int .i64 acc.length, .int .i64 a.1, .string (bs d.1)] 28 (0, 0))
            simpa using this
          have hb5 : w.heap.size + 1 ≤ w5.heap.size := by have := hS5.lt; omega
          go_wp2_with (at_builtin; refine wpList_append_own _ rfl _ _ 34 rfl (w.heap.size + 1) 28 i0 _ 4 40 Try.underlying34 hi hz0 hz1 hz2 rfl (by decide) (.slice A acc.length c) acc.length (acc.flatMap Rc.cells) rfl (hown6.alloc _) ⟨w5.heap.size, 0, none⟩ 1 1 (Rc.cells ⟨win, acc.length, a.1, d.1⟩) rfl rfl (World.news_of_block (cs := #[.int .i64 win, .int .i64 acc.length, .int .i64 a.1, .string (bs d.1)]) (t := 28) (fr := (0, 0)) hnw) (by intro u hu; simp [Rc.cells, strV] at hu; rcases hu with rfl | rfl | rfl | rfl <;> rfl) (by unfold maxLen; omega) (by omega) (by simp; omega) ?_; intro v7 w7 hown7 hgrow7 _)
          have hng6 : (Value.slice A acc.length c).ownBlock ≠ some w.heap.size := hng
          have hS7 : RfAt w7 w.heap.size s d.2 := RfAt.grown (RfAt.alloc hS6 _) hgrow7 (fun e => hng6 e.symm)
          have E7 : Ext w w7 := (E6.alloc (.cells #[.int .i64 win, .int .i64 acc.length, .int .i64 a.1, .string (bs d.1)] 28)).grown hgrow7 (by have := E6.size; simp at this ⊢; omega) (fun i hi => by have := ((hown6).lt i hi).1; omega)
          have hown8 : w7.ownsRow (w.heap.size + 1) 28 4 v7 (acc ++ [(⟨win, acc.length, a.1, d.1⟩ : Rc)]).length ((acc ++ [(⟨win, acc.length, a.1, d.1⟩ : Rc)]).flatMap Rc.cells) := by
            rw [List.length_append, List.flatMap_append]
            simpa using hown7
          have hz7 : w.heap.size + 1 ≤ w7.heap.size := hS7.lt
          have hms7 := rfLeftM_at hS7
          clear hown6 hown7 hgrow7 hr6 hS6 E6 d0 d1 d2 d3 f0 f1 f2 f3 g2 h2
          go_wp2
          go_roundw
          case rel => exact ⟨f - 1, d.2, acc ++ [⟨win, acc.length, a.1, d.1⟩], by omega, HT2, hS7, hown8, hz7, E7⟩
          case measure => rw [hms7, hms3]; exact hst
        · have hown6b := World.ownsRow.kept hown6 (row := some w.heap.size) ((Upd.refl w.heap.size _).setCell (p := ⟨w.heap.size, 2, none⟩) (.inl rfl) (.bool true)) (.inr hng)
          have hS6b := hS6.bad
          have E6b := E6.setCell (p := ⟨w.heap.size, 2, none⟩) (Nat.le_refl _) (.bool true)
          have HT2 := Lib.hid HT'
          clear HT'
          have hnw : ((((w5.setCell ⟨w3.heap.size, 3, none⟩ (.string (bs d.1))).setCell ⟨w.heap.size, 2, none⟩ (.bool true)).alloc (.cells #[.int .i64 win, .int .i64 acc.length, .int .i64 a.1, .string (bs d.1)] 28)).heap[w5.heap.size]?) = some (.cells #[.int .i64 win, .int .i64 acc.length, .int .i64 a.1, .string (bs d.1)] 28 (0, 0)) := by
            have := heap_alloc_new ((w5.setCell ⟨w3.heap.size, 3, none⟩ (.string (bs d.1))).setCell ⟨w.heap.size, 2, none⟩ (.bool true)) (.cells #[.int .i64 win, .int .i64 acc.length, .int .i64 a.1, .string (bs d.1)] 28 (0, 0))
            simpa using this
          have hb5 : w.heap.size + 1 ≤ w5.heap.size := by have := hS5.lt; omega
          go_wp2_with (at_builtin; refine wpList_append_own _ rfl _ _ 34 rfl (w.heap.size + 1) 28 i0 _ 4 40 Try.underlying34 hi hz0 hz1 hz2 rfl (by decide) (.slice A acc.length c) acc.length (acc.flatMap Rc.cells) rfl (hown6b.alloc _) ⟨w5.heap.size, 0, none⟩ 1 1 (Rc.cells ⟨win, acc.length, a.1, d.1⟩) rfl rfl (World.news_of_block (cs := #[.int .i64 win, .int .i64 acc.length, .int .i64 a.1, .string (bs d.1)]) (t := 28) (fr := (0, 0)) hnw) (by intro u hu; simp [Rc.cells, strV] at hu; rcases hu with rfl | rfl | rfl | rfl <;> rfl) (by unfold maxLen; omega) (by omega) (by simp; omega) ?_; intro v7 w7 hown7 hgrow7 _)
          have hng6 : (Value.slice A acc.length c).ownBlock ≠ some w.heap.size := hng
          have hS7 : RfAt w7 w.heap.size s d.2.bad := RfAt.grown (RfAt.alloc hS6b _) hgrow7 (fun e => hng6 e.symm)
          have E7 : Ext w w7 := (E6b.alloc (.cells #[.int .i64 win, .int .i64 acc.length, .int .i64 a.1, .string (bs d.1)] 28)).grown hgrow7 (by have := E6b.size; simp at this ⊢; omega) (fun i hi => by have := ((hown6b).lt i hi).1; omega)
          have hown8 : w7.ownsRow (w.heap.size + 1) 28 4 v7 (acc ++ [(⟨win, acc.length, a.1, d.1⟩ : Rc)]).length ((acc ++ [(⟨win, acc.length, a.1, d.1⟩ : Rc)]).flatMap Rc.cells) := by
            rw [List.length_append, List.flatMap_append]
            simpa using hown7
          have hz7 : w.heap.size + 1 ≤ w7.heap.size := hS7.lt
          have hms7 := rfLeftM_at hS7
          clear hown6 hown7 hgrow7 hr6 hS6 E6 d0 d1 d2 d3 f0 f1 f2 f3 g2 h2
          go_wp2
          go_roundw
          case rel => exact ⟨f - 1, d.2.bad, acc ++ [⟨win, acc.length, a.1, d.1⟩], by simp only [Oct.Sc.bad]; omega, HT2, hS7, hown8, hz7, E7⟩
          case measure => rw [hms7, hms3]; have : d.2.bad.leftN = 0 := rfl; omega

end Go.Proofs.Ytnpmojfjoemelaa
