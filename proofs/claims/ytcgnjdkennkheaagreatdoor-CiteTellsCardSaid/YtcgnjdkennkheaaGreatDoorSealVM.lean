/-
  Reading of layer 16: the document's begin, hash, ReadFreeze, ReadHead, ReadStone.
  Reading of layer 16: the document's ReadStone.
  Plain functions for layer 19 (cite): cites as bytes, and read again. No program in sight.
-/
import Derived.Test.YtcgnjdkennkheaaGreatDoorSealNM
import Derived.Test.YtcgnjdkennkheaaGreatDoorRef1
import Derived.Test.YtcgnjdkennkheaaGreatDoorSealM
set_option linter.unusedVariables false
set_option maxRecDepth 100000
set_option linter.unusedSimpArgs false
set_option linter.unusedSectionVars false
namespace Go.Proofs.YtcgnjdkennkheaaGreatDoor
open Go.RowKit
open Seal (Fz Hd St)
attribute [local go_sem] bs_size bs_toList2 bs_append bs_extract_end bs_extract_begin bs_get wrap64_b

end Go.Proofs.YtcgnjdkennkheaaGreatDoor

namespace Go.Proofs.YtcgnjdkennkheaaGreatDoor
open Go.RowKit
open Seal (Fz Hd St)
attribute [local go_sem] bs_size bs_toList2 bs_append bs_extract_end bs_extract_begin bs_get wrap64_b


end Go.Proofs.YtcgnjdkennkheaaGreatDoor

namespace Go.Proofs.YtcgnjdkennkheaaGreatDoor
namespace Seal
open Oct

theorem list_len (x : Sc) (most : Int) (h0 : 0 ≤ most) : ((x.list most).1.length : Int) ≤ most := by
  have key : ∀ (n : Nat) (y : Sc), (y.texts n).1.length ≤ n := by
    intro n
    induction n with
    | zero => intro y; simp [Sc.texts]
    | succ n ih =>
      intro y
      unfold Sc.texts
      split
      · simp
      · simpa using ih _
  have h1 := num_le x most h0
  have h2 := num_nonneg x most
  have h3 := key (x.num most).1.toNat (x.num most).2
  unfold Sc.list
  split
  · simpa using h0
  · omega
theorem texts_sound : ∀ (n : Nat) (x : Sc), (x.texts n).2.spoil = false → x.spoil = false
  | 0, x, h => h
  | n + 1, x, h => by
    cases hb : (x.text 16777216).2.spoil
    · exact (text_sound _ _ hb).1
    · rw [texts_stop n x hb, hb] at h; cases h
theorem list_sound (x : Sc) (most : Int) (h : (x.list most).2.spoil = false) : x.spoil = false := by
  have h1 : ((x.num most).2.texts (x.num most).1.toNat).2.spoil = false := by
    unfold Sc.list at h
    split at h
    · exact h
    · exact h
  exact (num_sound x most (texts_sound _ _ h1)).1
def zeroF : Fz := ⟨0, 0, List.replicate 32 0⟩
def zeroH : Hd := ⟨0, List.replicate 32 0, 0, List.replicate 32 0⟩
structure Ct where
  fz : Fz
  path : List (List UInt8)
  place : Int
  super : List (List UInt8)
  hd : Hd
/-- The document's hashes of a list of texts. -/
def sumsR (x : Sc) : List (List UInt8) × Sc := if (∀ t ∈ (x.list 64).1, t.length = 32) then x.list 64 else ([], (x.list 64).2.bad)
theorem sumsR_sound (x : Sc) (h : (sumsR x).2.spoil = false) : x.spoil = false ∧ (∀ t ∈ (sumsR x).1, t.length = 32) ∧ (sumsR x).1.length ≤ 64 ∧ x.left = list (sumsR x).1 ++ (sumsR x).2.left := by
  unfold sumsR at h ⊢
  split at h
  · rename_i hl
    rw [if_pos hl]
    have := list_len x 64 (by omega)
    exact ⟨list_sound x 64 h, hl, by omega, list_back x 64 h⟩
  · cases h
theorem sumsR_put (l : List (List UInt8)) (hl : ∀ t ∈ l, t.length = 32) (h64 : l.length ≤ 64) (r : List UInt8) : sumsR ⟨list l ++ r, false⟩ = (l, ⟨r, false⟩) := by
  unfold sumsR
  rw [list_put l (by omega) (fun s hs => by rw [hl s hs]; omega) r 64 (by omega), if_pos hl]
namespace Ct
def may (c : Ct) : Prop := c.fz.may ∧ c.hd.may ∧ 0 ≤ c.place ∧ c.place ≤ 1099511627776 ∧ c.path.length ≤ 64 ∧ c.super.length ≤ 64
instance (c : Ct) : Decidable c.may := by unfold may; infer_instance
def ok (c : Ct) : Prop := c.fz.root.length = 32 ∧ c.hd.root.length = 32 ∧ c.hd.mac.length = 32 ∧ (∀ t ∈ c.path, t.length = 32) ∧ (∀ t ∈ c.super, t.length = 32)
def bytes (c : Ct) : List UInt8 := text c.fz.bytes ++ (list c.path ++ (put (u64 c.place) ++ (list c.super ++ text c.hd.bytes)))
def zero : Ct := ⟨zeroF, [], 0, [], zeroH⟩
def parse (s : List UInt8) : Ct × Sc :=
  let a := Sc.text ⟨s, false⟩ 16777216
  let b := a.2.list 64
  let p := b.2.num 1099511627776
  let q := p.2.list 64
  let r := q.2.text 16777216
  (⟨(Fz.read a.1).getD zeroF, b.1.map pad32, p.1, q.1.map pad32, (Hd.read r.1).getD zeroH⟩, r.2)
/-- What is read; the parts of the test are those of the program. -/
def good (s : List UInt8) : Prop := (parse s).2.endE = 0 ∧ (parse s).1.may ∧ (parse s).1.bytes = s
instance (s : List UInt8) : Decidable (good s) := by unfold good; infer_instance
def read (s : List UInt8) : Option Ct := if good s then some (parse s).1 else none
theorem pads_ok (l : List (List UInt8)) : ∀ t ∈ l.map pad32, t.length = 32 := fun t ht => by
  obtain ⟨u, _, rfl⟩ := List.mem_map.1 ht
  exact pad32_length u
theorem pads_id (l : List (List UInt8)) (h : ∀ t ∈ l, t.length = 32) : l.map pad32 = l := by
  induction l with
  | nil => rfl
  | cons x l ih => rw [List.map_cons, pad32_id x (h x (by simp)), ih (fun t ht => h t (by simp [ht]))]
theorem fz_getD (s : List UInt8) : ((Fz.read s).getD zeroF).root.length = 32 := by
  cases h : Fz.read s with
  | none => rfl
  | some f => exact ((Fz.read_iff _ f).1 h).2.1
theorem hd_getD (s : List UInt8) : ((Hd.read s).getD zeroH).root.length = 32 ∧ ((Hd.read s).getD zeroH).mac.length = 32 := by
  cases h : Hd.read s with
  | none => exact ⟨rfl, rfl⟩
  | some f => exact ⟨((Hd.read_iff _ f).1 h).2.1, ((Hd.read_iff _ f).1 h).2.2.1⟩
theorem parse_ok (s : List UInt8) : (parse s).1.ok := ⟨fz_getD _, (hd_getD _).1, (hd_getD _).2, pads_ok _, pads_ok _⟩
theorem hd_length (h : Hd) (h1 : h.root.length = 32) (h2 : h.mac.length = 32) : h.bytes.length ≤ 120 := by
  have a1 := put_length (u64 h.size)
  have a2 := need_le (u64 h.size)
  have a3 := put_length (u64 h.clock)
  have a4 := need_le (u64 h.clock)
  have a5 := put_length h.root.length
  have a6 := need_le h.root.length
  have a7 := put_length h.mac.length
  have a8 := need_le h.mac.length
  rw [Hd.bytes_eq]
  unfold text
  simp only [List.length_cons, List.length_append]
  omega
theorem parse_put (c : Ct) (hm : c.may) (ho : c.ok) : parse c.bytes = (c, ⟨[], false⟩) := by
  obtain ⟨m1, m2, m3, m4, m5, m6⟩ := hm
  obtain ⟨o1, o2, o3, o4, o5⟩ := ho
  have e1 := u64_id c.place (by omega) (by omega)
  have b1 := Fz.bytes_length c.fz o1
  have b2 := hd_length c.hd o2 o3
  have ht := text_put c.hd.bytes (by omega) [] 16777216 (by omega)
  rw [List.append_nil] at ht
  unfold parse bytes
  simp only [text_put c.fz.bytes (by omega) _ 16777216 (by omega), list_put c.path (by omega) (fun s hs => by rw [o4 s hs]; omega) _ 64 (by omega), num_put (u64 c.place) (u64_lt _) _ 1099511627776 (by rw [e1]; exact m4),
    list_put c.super (by omega) (fun s hs => by rw [o5 s hs]; omega) _ 64 (by omega), ht, e1, Fz.read_bytes c.fz m1 o1, Hd.read_bytes c.hd m2 o2 o3, Option.getD_some, pads_id _ o4, pads_id _ o5]
theorem read_iff (s : List UInt8) (c : Ct) : read s = some c ↔ c.may ∧ c.ok ∧ s = c.bytes := by
  constructor
  · intro h
    unfold read at h
    split at h
    · rename_i hg
      injection h with h
      subst h
      exact ⟨hg.2.1, parse_ok s, hg.2.2.symm⟩
    · cases h
  · rintro ⟨hm, ho, rfl⟩
    have hp := parse_put c hm ho
    have hg : good c.bytes := by
      unfold good
      rw [hp]
      exact ⟨end_nil, hm, rfl⟩
    unfold read
    rw [if_pos hg, hp]
theorem read_bytes (c : Ct) (hm : c.may) (ho : c.ok) : read c.bytes = some c := (read_iff _ _).2 ⟨hm, ho, rfl⟩
def headText (s : List UInt8) : List UInt8 := ((((Sc.text ⟨s, false⟩ 16777216).2.list 64).2.num 1099511627776).2.list 64).2 |>.text 16777216 |>.1
theorem texts_of (c : Ct) (hm : c.may) (ho : c.ok) : (Sc.text ⟨c.bytes, false⟩ 16777216).1 = c.fz.bytes ∧ headText c.bytes = c.hd.bytes := by
  obtain ⟨m1, m2, m3, m4, m5, m6⟩ := hm
  obtain ⟨o1, o2, o3, o4, o5⟩ := ho
  have e1 := u64_id c.place (by omega) (by omega)
  have b1 := Fz.bytes_length c.fz o1
  have b2 := hd_length c.hd o2 o3
  have ht := text_put c.hd.bytes (by omega) [] 16777216 (by omega)
  rw [List.append_nil] at ht
  unfold headText bytes
  simp only [text_put c.fz.bytes (by omega) _ 16777216 (by omega), list_put c.path (by omega) (fun s hs => by rw [o4 s hs]; omega) _ 64 (by omega), num_put (u64 c.place) (u64_lt _) _ 1099511627776 (by rw [e1]; exact m4),
    list_put c.super (by omega) (fun s hs => by rw [o5 s hs]; omega) _ 64 (by omega), ht, and_self]
/-- What is good was written by both parts. -/
theorem good_parts (s : List UInt8) (h : good s) : (Fz.read (Sc.text ⟨s, false⟩ 16777216).1).isSome = true ∧ (Hd.read (headText s)).isSome = true := by
  obtain ⟨h1, h2, h3⟩ := h
  have ho := parse_ok s
  have ht := texts_of (parse s).1 h2 ho
  rw [h3] at ht
  rw [ht.1, ht.2, Fz.read_bytes _ h2.1 ho.1, Hd.read_bytes _ h2.2.1 ho.2.1 ho.2.2.1]
  exact ⟨rfl, rfl⟩
def parseR (s : List UInt8) : Sc × List UInt8 × List (List UInt8) × Int × List (List UInt8) × List UInt8 :=
  let a := Sc.text ⟨s, false⟩ 16777216
  let b := sumsR a.2
  let p := b.2.num 1099511627776
  let q := sumsR p.2
  let r := q.2.text 16777216
  (r.2, a.1, b.1, p.1, q.1, r.1)
def readR (s : List UInt8) : Option Ct :=
  match Fz.read (parseR s).2.1, Hd.read (parseR s).2.2.2.2.2 with
  | some f, some h => if (parseR s).1.endE = 0 then some ⟨f, (parseR s).2.2.1, (parseR s).2.2.2.1, (parseR s).2.2.2.2.1, h⟩ else none
  | _, _ => none
theorem readR_iff (s : List UInt8) (c : Ct) : readR s = some c ↔ c.may ∧ c.ok ∧ s = c.bytes := by
  constructor
  · intro h
    unfold readR at h
    split at h
    · rename_i f g hf hg
      split at h
      · rename_i he
        injection h with h
        unfold parseR at he hf hg h
        simp only at he hf hg h
        obtain ⟨s1, l1⟩ := end_ok _ he
        have b1 := text_back _ _ s1
        obtain ⟨s2, _⟩ := text_sound _ _ s1
        obtain ⟨s3, a3, n3, b3⟩ := sumsR_sound _ s2
        obtain ⟨s4, _⟩ := num_sound _ _ s3
        obtain ⟨b4, _⟩ := num_back _ _ s3
        obtain ⟨s5, a5, n5, b5⟩ := sumsR_sound _ s4
        obtain ⟨s6, _⟩ := text_sound _ _ s5
        have b6 := text_back _ _ s5
        have n1 := num_nonneg (sumsR (Sc.text ⟨s, false⟩ 16777216).2).2 1099511627776
        have n2 := num_le (sumsR (Sc.text ⟨s, false⟩ 16777216).2).2 1099511627776 (by omega)
        obtain ⟨f1, f2, f3⟩ := (Fz.read_iff _ f).1 hf
        obtain ⟨g1, g2, g3, g4⟩ := (Hd.read_iff _ g).1 hg
        rw [l1, List.append_nil, g4] at b1
        rw [b1] at b3
        rw [b3] at b4
        rw [b4] at b5
        rw [b5, f3] at b6
        subst h
        refine ⟨⟨f1, g1, n1, n2, n5, n3⟩, ⟨f2, g2, g3, a5, a3⟩, ?_⟩
        unfold bytes
        simp only
        rw [u64_nat _ (by omega) (by omega)]
        exact b6
      · cases h
    · cases h
  · rintro ⟨hm, ho, rfl⟩
    obtain ⟨m1, m2, m3, m4, m5, m6⟩ := hm
    obtain ⟨o1, o2, o3, o4, o5⟩ := ho
    have e1 := u64_id c.place (by omega) (by omega)
    have b1 := Fz.bytes_length c.fz o1
    have b2 := hd_length c.hd o2 o3
    have ht := text_put c.hd.bytes (by omega) [] 16777216 (by omega)
    rw [List.append_nil] at ht
    have hp : parseR c.bytes = (⟨[], false⟩, c.fz.bytes, c.path, c.place, c.super, c.hd.bytes) := by
      unfold parseR bytes
      simp only [text_put c.fz.bytes (by omega) _ 16777216 (by omega), sumsR_put c.path o4 m5, num_put (u64 c.place) (u64_lt _) _ 1099511627776 (by rw [e1]; exact m4), sumsR_put c.super o5 m6, ht, e1]
    unfold readR
    rw [hp]
    simp only [Fz.read_bytes c.fz m1 o1, Hd.read_bytes c.hd m2 o2 o3]
    rw [if_pos end_nil]
theorem readR_eq (s : List UInt8) : readR s = read s := by
  cases h : read s with
  | some f => exact (readR_iff s f).2 ((read_iff s f).1 h)
  | none =>
    cases h2 : readR s with
    | none => rfl
    | some f => rw [(read_iff s f).2 ((readR_iff s f).1 h2)] at h; cases h
end Ct
end Seal
end Go.Proofs.YtcgnjdkennkheaaGreatDoor
