/-
  Plain functions for layer 16 (seal): freezes, heads and stones as bytes, and read again. No program in sight.
  Words for freezes, heads and stones in memory: their cells, their parts, what is stored in them; two compared.
  Freezes, heads and stones built out of parts.
  The walks of seal's says, number, sum, within, FreezeBytes, headSays, stoneSays.
  The walks of seal's signed, HeadBytes, StoneBytes, HeadRight, StoneRight, Head, Stone.
  The walks of seal's Head, Stone.
  The walks of the document's FreezeBytes, FreezeLeaf, headSays, stoneSays, HeadBytes, StoneBytes, HeadRight, StoneRight, Head, Stone.
  The chapter's examples (awake) and short of law 16.
  Arguments opened: freezes, heads, stones, a head with a stone, two of each.
-/
import Derived.Test.YtcgnjdkennkheaaGreatDoorOctB
import Derived.Test.YtcgnjdkennkheaaGreatDoorSums
import Derived.Test.YtcgnjdkennkheaaGreatDoorEqA
import Derived.Test.YtcgnjdkennkheaaGreatDoorLeaf1
import Derived.Test.YtcgnjdkennkheaaGreatDoorShelf
import Derived.Test.YtcgnjdkennkheaaGreatDoorHex
import Derived.Test.YtcgnjdkennkheaaGreatDoorOct2
import Derived.Test.YtcgnjdkennkheaaGreatDoorMac3
import Derived.Test.YtcgnjdkennkheaaGreatDoorMacR
import Derived.Test.YtcgnjdkennkheaaGreatDoorL01
set_option linter.unusedVariables false
set_option maxRecDepth 100000
set_option linter.unusedSimpArgs false
set_option linter.unusedSectionVars false
namespace Go.Proofs.YtcgnjdkennkheaaGreatDoor
namespace Seal
open Oct

def u64 (t : Int) : Nat := (t % 18446744073709551616).toNat
theorem u64_lt (t : Int) : u64 t < 18446744073709551616 := by unfold u64; omega
theorem u64_id (t : Int) (h0 : 0 ≤ t) (h1 : t ≤ 9223372036854775807) : (u64 t : Int) = t := by unfold u64; omega
theorem u64_nat (t : Int) (h0 : 0 ≤ t) (h1 : t ≤ 9223372036854775807) : u64 t = t.toNat := by unfold u64; omega
/-- What is copied into an array of 32. -/
def pad32 (s : List UInt8) : List UInt8 := (s ++ List.replicate 32 0).take 32
theorem pad32_length (s : List UInt8) : (pad32 s).length = 32 := by simp [pad32]
theorem pad32_id (s : List UInt8) (h : s.length = 32) : pad32 s = s := by
  unfold pad32
  rw [List.take_append_of_le_length (by omega), List.take_of_length_le (by omega)]
/-- The document's hash at a scanner's place. -/
def hashR (x : Sc) : List UInt8 × Sc := if (x.text 32).1.length = 32 then x.text 32 else (List.replicate 32 0, (x.text 32).2.bad)
theorem hashR_put (s : List UInt8) (h : s.length = 32) (r : List UInt8) : hashR ⟨text s ++ r, false⟩ = (s, ⟨r, false⟩) := by
  unfold hashR
  rw [text_put s (by omega) r 32 (by omega), if_pos h]
theorem hashR_sound (x : Sc) (h : (hashR x).2.spoil = false) : x.spoil = false ∧ (hashR x).1.length = 32 ∧ x.left = text (hashR x).1 ++ (hashR x).2.left := by
  unfold hashR at h ⊢
  split at h
  · rename_i hl
    rw [if_pos hl]
    exact ⟨(text_sound x 32 h).1, hl, text_back x 32 h⟩
  · cases h
/-- The document's scanner behind a letter. -/
def begin_ (s : List UInt8) (c : UInt8) : Sc := match s with
  | d :: r => if d = c then ⟨r, false⟩ else ⟨[], true⟩
  | [] => ⟨[], true⟩
theorem begin_sound (s : List UInt8) (c : UInt8) (h : (begin_ s c).spoil = false) : s = c :: (begin_ s c).left := by
  unfold begin_ at h ⊢
  split at h
  · split at h
    · rename_i hd
      rw [if_pos hd, hd]
    · cases h
  · cases h
theorem begin_put (c : UInt8) (r : List UInt8) : begin_ (c :: r) c = ⟨r, false⟩ := if_pos rfl

/-! ### Freezes -/
structure Fz where
  win : Int
  cnt : Int
  root : List UInt8
namespace Fz
def may (f : Fz) : Prop := 0 ≤ f.win ∧ f.win ≤ 1125899906842624 ∧ 1 ≤ f.cnt ∧ f.cnt ≤ 4000
instance (f : Fz) : Decidable f.may := by unfold may; infer_instance
def bytes (f : Fz) : List UInt8 := 70 :: (put (u64 f.win) ++ (put (u64 f.cnt) ++ text f.root))
def parse (x : Sc) : Fz × Sc :=
  let a := x.num 1125899906842624
  let b := a.2.num 4000
  let c := b.2.text 32
  (⟨a.1, b.1, pad32 c.1⟩, c.2)
theorem parse_put (f : Fz) (hm : f.may) (h : f.root.length = 32) (r : List UInt8) : parse ⟨put (u64 f.win) ++ (put (u64 f.cnt) ++ (text f.root ++ r)), false⟩ = (f, ⟨r, false⟩) := by
  obtain ⟨m1, m2, m3, m4⟩ := hm
  have e1 := u64_id f.win (by omega) (by omega)
  have e2 := u64_id f.cnt (by omega) (by omega)
  unfold parse
  simp only [num_put (u64 f.win) (u64_lt _) _ 1125899906842624 (by omega), num_put (u64 f.cnt) (u64_lt _) _ 4000 (by omega), text_put f.root (by omega) r 32 (by omega), pad32_id f.root h, e1, e2]
def read (s : List UInt8) : Option Fz := match s with
  | 70 :: r => if (parse ⟨r, false⟩).1.may ∧ (parse ⟨r, false⟩).1.bytes = s then some (parse ⟨r, false⟩).1 else none
  | _ => none
theorem read_iff (s : List UInt8) (f : Fz) : read s = some f ↔ f.may ∧ f.root.length = 32 ∧ s = f.bytes := by
  constructor
  · intro h
    unfold read at h
    split at h
    · split at h
      · rename_i hc
        injection h with h
        subst h
        exact ⟨hc.1, pad32_length _, hc.2.symm⟩
      · cases h
    · cases h
  · rintro ⟨hm, hl, rfl⟩
    have hp := parse_put f hm hl []
    rw [List.append_nil] at hp
    unfold read bytes
    simp only [hp]
    exact if_pos ⟨hm, trivial⟩
def readR (s : List UInt8) : Option Fz :=
  let x := begin_ s 70
  let a := x.num 1125899906842624
  let b := a.2.num 4000
  let c := hashR b.2
  if c.2.endE = 0 ∧ (⟨a.1, b.1, c.1⟩ : Fz).may then some ⟨a.1, b.1, c.1⟩ else none
theorem readR_iff (s : List UInt8) (f : Fz) : readR s = some f ↔ f.may ∧ f.root.length = 32 ∧ s = f.bytes := by
  constructor
  · intro h
    unfold readR at h
    simp only at h
    split at h
    · rename_i hc
      injection h with h
      obtain ⟨he, hm⟩ := hc
      rw [h] at hm
      obtain ⟨s1, l1⟩ := end_ok _ he
      obtain ⟨s2, l2, b2⟩ := hashR_sound _ s1
      obtain ⟨s3, _⟩ := num_sound _ _ s2
      obtain ⟨s4, _⟩ := num_sound _ _ s3
      obtain ⟨b3, _⟩ := num_back _ _ s2
      obtain ⟨b4, _⟩ := num_back _ _ s3
      have b5 := begin_sound s 70 s4
      rw [l1, List.append_nil] at b2
      rw [b2] at b3
      rw [b3] at b4
      rw [b4] at b5
      subst h
      refine ⟨hm, l2, ?_⟩
      obtain ⟨m1, m2, m3, m4⟩ := hm
      unfold bytes
      simp only at m1 m2 m3 m4 ⊢
      rw [u64_nat _ (by omega) (by omega), u64_nat _ (by omega) (by omega)]
      exact b5
    · cases h
  · rintro ⟨hm, hl, rfl⟩
    have hm' := hm
    obtain ⟨m1, m2, m3, m4⟩ := hm'
    have e1 := u64_id f.win (by omega) (by omega)
    have e2 := u64_id f.cnt (by omega) (by omega)
    have hh := hashR_put f.root hl []
    rw [List.append_nil] at hh
    unfold readR bytes
    simp only [begin_put, num_put (u64 f.win) (u64_lt _) _ 1125899906842624 (by omega), num_put (u64 f.cnt) (u64_lt _) _ 4000 (by omega), hh, e1, e2]
    rw [if_pos ⟨end_nil, hm⟩]
theorem readR_eq (s : List UInt8) : readR s = read s := by
  cases h : read s with
  | some f => exact (readR_iff s f).2 ((read_iff s f).1 h)
  | none =>
    cases h2 : readR s with
    | none => rfl
    | some f => rw [(read_iff s f).2 ((readR_iff s f).1 h2)] at h; cases h
theorem read_bytes (f : Fz) (hm : f.may) (h : f.root.length = 32) : read f.bytes = some f := (read_iff _ _).2 ⟨hm, h, rfl⟩
theorem bytes_length (f : Fz) (h : f.root.length = 32) : f.bytes.length ≤ 70 := by
  have h1 := put_length (u64 f.win)
  have h2 := need_le (u64 f.win)
  have h3 := put_length (u64 f.cnt)
  have h4 := need_le (u64 f.cnt)
  have h5 := put_length f.root.length
  have h6 := need_le f.root.length
  unfold bytes text
  simp only [List.length_cons, List.length_append]
  omega
theorem bytes_one (a b : Fz) (ha : a.may) (hb : b.may) (la : a.root.length = 32) (lb : b.root.length = 32) (h : a.bytes = b.bytes) : a = b := by
  have h1 := read_bytes a ha la
  rw [h, read_bytes b hb lb] at h1
  injection h1 with h1
  exact h1.symm
end Fz

/-! ### Heads -/
structure Hd where
  size : Int
  root : List UInt8
  clock : Int
  mac : List UInt8
namespace Hd
def may (h : Hd) : Prop := 0 ≤ h.size ∧ h.size ≤ 1099511627776 ∧ 0 ≤ h.clock ∧ h.clock ≤ 1125899906842624
instance (h : Hd) : Decidable h.may := by unfold may; infer_instance
def says (h : Hd) : List UInt8 := 72 :: (put (u64 h.size) ++ (text h.root ++ put (u64 h.clock)))
def bytes (h : Hd) : List UInt8 := h.says ++ text h.mac
def parse (x : Sc) : Hd × Sc :=
  let a := x.num 1099511627776
  let b := a.2.text 32
  let c := b.2.num 1125899906842624
  let d := c.2.text 32
  (⟨a.1, pad32 b.1, c.1, pad32 d.1⟩, d.2)
theorem bytes_eq (h : Hd) : h.bytes = 72 :: (put (u64 h.size) ++ (text h.root ++ (put (u64 h.clock) ++ text h.mac))) := by
  unfold bytes says
  simp [List.append_assoc]
theorem parse_put (h : Hd) (hm : h.may) (h1 : h.root.length = 32) (h2 : h.mac.length = 32) (r : List UInt8) : parse ⟨put (u64 h.size) ++ (text h.root ++ (put (u64 h.clock) ++ (text h.mac ++ r))), false⟩ = (h, ⟨r, false⟩) := by
  obtain ⟨m1, m2, m3, m4⟩ := hm
  have e1 := u64_id h.size (by omega) (by omega)
  have e2 := u64_id h.clock (by omega) (by omega)
  unfold parse
  simp only [num_put (u64 h.size) (u64_lt _) _ 1099511627776 (by omega), text_put h.root (by omega) _ 32 (by omega), num_put (u64 h.clock) (u64_lt _) _ 1125899906842624 (by omega), text_put h.mac (by omega) r 32 (by omega), pad32_id h.root h1, pad32_id h.mac h2, e1, e2]
def read (s : List UInt8) : Option Hd := match s with
  | 72 :: r => if (parse ⟨r, false⟩).1.may ∧ (parse ⟨r, false⟩).1.bytes = s then some (parse ⟨r, false⟩).1 else none
  | _ => none
theorem read_iff (s : List UInt8) (f : Hd) : read s = some f ↔ f.may ∧ f.root.length = 32 ∧ f.mac.length = 32 ∧ s = f.bytes := by
  constructor
  · intro h
    unfold read at h
    split at h
    · split at h
      · rename_i hc
        injection h with h
        subst h
        exact ⟨hc.1, pad32_length _, pad32_length _, hc.2.symm⟩
      · cases h
    · cases h
  · rintro ⟨hm, hl, hl2, rfl⟩
    have hp := parse_put f hm hl hl2 []
    rw [List.append_nil] at hp
    rw [bytes_eq]
    unfold read
    simp only [hp]
    rw [if_pos ⟨hm, bytes_eq f⟩]
def readR (s : List UInt8) : Option Hd :=
  let x := begin_ s 72
  let a := x.num 1099511627776
  let b := hashR a.2
  let c := b.2.num 1125899906842624
  let d := hashR c.2
  if d.2.endE = 0 then some ⟨a.1, b.1, c.1, d.1⟩ else none
theorem readR_iff (s : List UInt8) (f : Hd) : readR s = some f ↔ f.may ∧ f.root.length = 32 ∧ f.mac.length = 32 ∧ s = f.bytes := by
  constructor
  · intro h
    unfold readR at h
    simp only at h
    split at h
    · rename_i he
      injection h with h
      obtain ⟨s1, l1⟩ := end_ok _ he
      obtain ⟨s2, l2, b2⟩ := hashR_sound _ s1
      obtain ⟨s3, _⟩ := num_sound _ _ s2
      obtain ⟨b3, _⟩ := num_back _ _ s2
      obtain ⟨s4, l4, b4⟩ := hashR_sound _ s3
      obtain ⟨s5, _⟩ := num_sound _ _ s4
      obtain ⟨b5, _⟩ := num_back _ _ s4
      have b6 := begin_sound s 72 s5
      have n1 := num_nonneg (begin_ s 72) 1099511627776
      have n2 := num_le (begin_ s 72) 1099511627776 (by omega)
      have n3 := num_nonneg (hashR ((begin_ s 72).num 1099511627776).2).2 1125899906842624
      have n4 := num_le (hashR ((begin_ s 72).num 1099511627776).2).2 1125899906842624 (by omega)
      rw [l1, List.append_nil] at b2
      rw [b2] at b3
      rw [b3] at b4
      rw [b4] at b5
      rw [b5] at b6
      subst h
      refine ⟨⟨n1, n2, n3, n4⟩, l4, l2, ?_⟩
      rw [bytes_eq]
      simp only
      rw [u64_nat _ (by omega) (by omega), u64_nat _ (by omega) (by omega)]
      exact b6
    · cases h
  · rintro ⟨hm, hl, hl2, rfl⟩
    have hm' := hm
    obtain ⟨m1, m2, m3, m4⟩ := hm'
    have e1 := u64_id f.size (by omega) (by omega)
    have e2 := u64_id f.clock (by omega) (by omega)
    have hh := hashR_put f.mac hl2 []
    rw [List.append_nil] at hh
    rw [bytes_eq]
    unfold readR
    simp only [begin_put, num_put (u64 f.size) (u64_lt _) _ 1099511627776 (by omega), hashR_put f.root hl, num_put (u64 f.clock) (u64_lt _) _ 1125899906842624 (by omega), hh, e1, e2]
    rw [if_pos end_nil]
theorem readR_eq (s : List UInt8) : readR s = read s := by
  cases h : read s with
  | some f => exact (readR_iff s f).2 ((read_iff s f).1 h)
  | none =>
    cases h2 : readR s with
    | none => rfl
    | some f => rw [(read_iff s f).2 ((readR_iff s f).1 h2)] at h; cases h
theorem read_bytes (f : Hd) (hm : f.may) (h : f.root.length = 32) (h2 : f.mac.length = 32) : read f.bytes = some f := (read_iff _ _).2 ⟨hm, h, h2, rfl⟩
theorem bytes_one (a b : Hd) (ha : a.may) (hb : b.may) (la : a.root.length = 32) (lb : b.root.length = 32) (la2 : a.mac.length = 32) (lb2 : b.mac.length = 32) (h : a.bytes = b.bytes) : a = b := by
  have h1 := read_bytes a ha la la2
  rw [h, read_bytes b hb lb lb2] at h1
  injection h1 with h1
  exact h1.symm
end Hd

/-! ### Stones -/
structure St where
  fz : Fz
  at_ : Int
  mac : List UInt8
namespace St
def may (t : St) : Prop := t.fz.may ∧ 0 ≤ t.at_ ∧ t.at_ ≤ 1125899906842624
instance (t : St) : Decidable t.may := by unfold may; infer_instance
def says (t : St) : List UInt8 := 84 :: (text t.fz.bytes ++ put (u64 t.at_))
def bytes (t : St) : List UInt8 := t.says ++ text t.mac
theorem bytes_eq (t : St) : t.bytes = 84 :: (text t.fz.bytes ++ (put (u64 t.at_) ++ text t.mac)) := by
  unfold bytes says
  simp [List.append_assoc]
def zeroF : Fz := ⟨0, 0, List.replicate 32 0⟩
theorem zero_may : ¬ zeroF.may := by unfold zeroF Fz.may; simp
def parse (x : Sc) : St × Sc :=
  let a := x.text 200
  let b := a.2.num 1125899906842624
  let c := b.2.text 32
  (⟨(Fz.read a.1).getD zeroF, b.1, pad32 c.1⟩, c.2)
theorem parse_put (t : St) (hm : t.may) (h1 : t.fz.root.length = 32) (h2 : t.mac.length = 32) (r : List UInt8) : parse ⟨text t.fz.bytes ++ (put (u64 t.at_) ++ (text t.mac ++ r)), false⟩ = (t, ⟨r, false⟩) := by
  obtain ⟨m1, m2, m3⟩ := hm
  have e1 := u64_id t.at_ (by omega) (by omega)
  have hb := Fz.bytes_length t.fz h1
  unfold parse
  simp only [text_put t.fz.bytes (by omega) _ 200 (by omega), num_put (u64 t.at_) (u64_lt _) _ 1125899906842624 (by omega), text_put t.mac (by omega) r 32 (by omega), pad32_id t.mac h2, e1, Fz.read_bytes t.fz m1 h1, Option.getD_some]
def read (s : List UInt8) : Option St := match s with
  | 84 :: r => if (parse ⟨r, false⟩).1.may ∧ (parse ⟨r, false⟩).1.bytes = s then some (parse ⟨r, false⟩).1 else none
  | _ => none
theorem parse_root (x : Sc) : (parse x).1.fz.root.length = 32 := by
  unfold parse
  simp only
  cases h : Fz.read (x.text 200).1 with
  | none => rfl
  | some f => exact ((Fz.read_iff _ f).1 h).2.1
theorem read_iff (s : List UInt8) (t : St) : read s = some t ↔ t.may ∧ t.fz.root.length = 32 ∧ t.mac.length = 32 ∧ s = t.bytes := by
  constructor
  · intro h
    unfold read at h
    split at h
    · split at h
      · rename_i hc
        injection h with h
        subst h
        exact ⟨hc.1, parse_root _, pad32_length _, hc.2.symm⟩
      · cases h
    · cases h
  · rintro ⟨hm, hl, hl2, rfl⟩
    have hp := parse_put t hm hl hl2 []
    rw [List.append_nil] at hp
    rw [bytes_eq]
    unfold read
    simp only [hp]
    exact if_pos ⟨hm, bytes_eq t⟩
def readR (s : List UInt8) : Option St :=
  let x := begin_ s 84
  let a := x.text 200
  let b := a.2.num 1125899906842624
  let c := hashR b.2
  match Fz.readR a.1 with
  | some f => if c.2.endE = 0 then some ⟨f, b.1, c.1⟩ else none
  | none => none
theorem readR_iff (s : List UInt8) (t : St) : readR s = some t ↔ t.may ∧ t.fz.root.length = 32 ∧ t.mac.length = 32 ∧ s = t.bytes := by
  constructor
  · intro h
    unfold readR at h
    simp only at h
    split at h
    · rename_i f hf
      split at h
      · rename_i he
        injection h with h
        obtain ⟨s1, l1⟩ := end_ok _ he
        obtain ⟨s2, l2, b2⟩ := hashR_sound _ s1
        obtain ⟨s3, _⟩ := num_sound _ _ s2
        obtain ⟨b3, _⟩ := num_back _ _ s2
        obtain ⟨s4, _⟩ := text_sound _ _ s3
        have b4 := text_back _ _ s3
        have b5 := begin_sound s 84 s4
        have n1 := num_nonneg ((begin_ s 84).text 200).2 1125899906842624
        have n2 := num_le ((begin_ s 84).text 200).2 1125899906842624 (by omega)
        obtain ⟨f1, f2, f3⟩ := (Fz.readR_iff _ f).1 hf
        rw [l1, List.append_nil] at b2
        rw [b2] at b3
        rw [b3] at b4
        rw [b4, f3] at b5
        subst h
        refine ⟨⟨f1, n1, n2⟩, f2, l2, ?_⟩
        rw [bytes_eq]
        simp only
        rw [u64_nat _ (by omega) (by omega)]
        exact b5
      · cases h
    · cases h
  · rintro ⟨hm, hl, hl2, rfl⟩
    obtain ⟨m1, m2, m3⟩ := hm
    have e1 := u64_id t.at_ (by omega) (by omega)
    have hb := Fz.bytes_length t.fz hl
    have hh := hashR_put t.mac hl2 []
    rw [List.append_nil] at hh
    have hf := (Fz.readR_iff t.fz.bytes t.fz).2 ⟨m1, hl, rfl⟩
    rw [bytes_eq]
    unfold readR
    simp only [begin_put, text_put t.fz.bytes (by omega) _ 200 (by omega), num_put (u64 t.at_) (u64_lt _) _ 1125899906842624 (by omega), hh, e1, hf]
    rw [if_pos end_nil]
theorem readR_eq (s : List UInt8) : readR s = read s := by
  cases h : read s with
  | some f => exact (readR_iff s f).2 ((read_iff s f).1 h)
  | none =>
    cases h2 : readR s with
    | none => rfl
    | some f => rw [(read_iff s f).2 ((readR_iff s f).1 h2)] at h; cases h
theorem read_bytes (t : St) (hm : t.may) (h : t.fz.root.length = 32) (h2 : t.mac.length = 32) : read t.bytes = some t := (read_iff _ _).2 ⟨hm, h, h2, rfl⟩
theorem bytes_one (a b : St) (ha : a.may) (hb : b.may) (la : a.fz.root.length = 32) (lb : b.fz.root.length = 32) (la2 : a.mac.length = 32) (lb2 : b.mac.length = 32) (h : a.bytes = b.bytes) : a = b := by
  have h1 := read_bytes a ha la la2
  rw [h, read_bytes b hb lb lb2] at h1
  injection h1 with h1
  exact h1.symm
end St

/-! ### Kinds -/
theorem fz_hd (f : Fz) : Hd.read f.bytes = none := rfl
theorem fz_st (f : Fz) : St.read f.bytes = none := rfl
theorem hd_fz (h : Hd) : Fz.read h.bytes = none := rfl
theorem hd_st (h : Hd) : St.read h.bytes = none := rfl
theorem st_fz (t : St) : Fz.read t.bytes = none := rfl
theorem st_hd (t : St) : Hd.read t.bytes = none := rfl
theorem fz_ne_hd (f : Fz) (h : Hd) : f.bytes ≠ h.bytes := fun e => by
  have : (70 : UInt8) = 72 := (List.cons.inj e).1
  cases this
theorem fz_ne_st (f : Fz) (t : St) : f.bytes ≠ t.bytes := fun e => by
  have : (70 : UInt8) = 84 := (List.cons.inj e).1
  cases this
theorem hd_ne_st (h : Hd) (t : St) : h.bytes ≠ t.bytes := fun e => by
  have : (72 : UInt8) = 84 := (List.cons.inj e).1
  cases this

end Seal
end Go.Proofs.YtcgnjdkennkheaaGreatDoor

namespace Go.Proofs.YtcgnjdkennkheaaGreatDoor
open Go.RowKit
open Seal (Fz Hd St)

/-- A block's cells, from o on, overwritten. -/
def setL : List Value → Nat → List Value → List Value
  | l, _, [] => l
  | l, o, v :: vs => setL (l.set o v) (o + 1) vs
theorem setL_mid : ∀ (vs old pre post : List Value), old.length = vs.length → setL (pre ++ (old ++ post)) pre.length vs = pre ++ (vs ++ post)
  | [], [], pre, post, _ => rfl
  | v :: vs, u :: old, pre, post, h => by
    have h1 : (pre ++ (u :: old ++ post)).set pre.length v = (pre ++ [v]) ++ (old ++ post) := by
      rw [List.set_append_right _ _ (Nat.le_refl _), Nat.sub_self]
      simp
    have h2 := setL_mid vs old (pre ++ [v]) post (by simpa using h)
    unfold setL
    rw [h1]
    rw [List.length_append, List.length_singleton] at h2
    rw [h2]
    simp
  | [], _ :: _, _, _, h => by simp at h
  | _ :: _, [], _, _, h => by simp at h
theorem Blk.setCells {g : Nat} {t : TypeId} : ∀ (vs : List Value) (o : Nat) (l : List Value) (w : World), Blk w g t l.toArray → Blk (w.setCells g o vs) g t (setL l o vs).toArray
  | [], o, l, w, h => h
  | v :: vs, o, l, w, h => by
    unfold World.setCells setL
    have h1 := h.set_ o v
    rw [List.setIfInBounds_toArray] at h1
    exact Blk.setCells vs (o + 1) (l.set o v) _ h1
theorem Blk.mid {w : World} {g : Nat} {t : TypeId} {pre old post : List Value} (h : Blk w g t (pre ++ (old ++ post)).toArray) (vs : List Value) (o : Nat) (ho : o = pre.length) (hl : old.length = vs.length) : Blk (w.setCells g o vs) g t (pre ++ (vs ++ post)).toArray := by
  subst ho
  have := h.setCells vs pre.length
  rwa [setL_mid vs old pre post hl] at this
theorem Blk.range {w : World} {g : Nat} {t : TypeId} {pre mid post : List Value} (h : Blk w g t (pre ++ (mid ++ post)).toArray) (o : Nat) (ho : o = pre.length) : w.rangeAt g o mid := fun j v hv => by
  subst ho
  rw [h.cell]
  have hj : j < mid.length := (List.getElem?_eq_some_iff.1 hv).1
  simp only [List.getElem?_toArray]
  rw [List.getElem?_append_right (by omega), Nat.add_sub_cancel_left, List.getElem?_append_left hj]
  exact hv
theorem Blk.there {w : World} {g : Nat} {t : TypeId} {l : List Value} (h : Blk w g t l.toArray) (o n : Nat) (ho : o + n ≤ l.length) : w.there g o n := fun j hj => by
  refine ⟨?_, h.frozen _⟩
  rw [h.cell]
  have : o + j < l.length := by omega
  simp [this]
theorem ext_setCells {w : World} {g : Nat} (hg : w.heap.size ≤ g) : ∀ (vs : List Value) (o : Nat) (w' : World), Ext w w' → Ext w (w'.setCells g o vs)
  | [], o, w', h => h
  | v :: vs, o, w', h => ext_setCells hg vs (o + 1) _ (h.setCell (p := ⟨g, o, none⟩) hg v)
theorem upd_setCells {w : World} {g : Nat} : ∀ (vs : List Value) (o : Nat) (w' : World), Upd g w w' → Upd g w (w'.setCells g o vs)
  | [], o, w', h => h
  | v :: vs, o, w', h => upd_setCells vs (o + 1) _ (h.setCell (p := ⟨g, o, none⟩) (.inl rfl) v)
theorem Blk.farCells {g g' : Nat} {t : TypeId} {cs : Array Value} (hne : g ≠ g') : ∀ (vs : List Value) (o : Nat) (w : World), Blk w g t cs → Blk (w.setCells g' o vs) g t cs
  | [], o, w, h => h
  | v :: vs, o, w, h => Blk.farCells hne vs (o + 1) _ (Blk.far h (p := ⟨g', o, none⟩) hne v)

namespace Seal
def Fz.cells (f : Fz) : List Value := [.int .i64 f.win, .int .i64 f.cnt] ++ (hcells f.root ++ [])
def Fz.v (f : Fz) : Value := .agg f.cells.toArray
def Fz.fit (f : Fz) : Prop := (-9223372036854775808 ≤ f.win ∧ f.win ≤ 9223372036854775807) ∧ (-9223372036854775808 ≤ f.cnt ∧ f.cnt ≤ 9223372036854775807) ∧ f.root.length = 32
def Hd.cells (h : Hd) : List Value := [.int .i64 h.size] ++ (hcells h.root ++ ([.int .i64 h.clock] ++ (hcells h.mac ++ [])))
def Hd.v (h : Hd) : Value := .agg h.cells.toArray
def Hd.fit (h : Hd) : Prop := (-9223372036854775808 ≤ h.size ∧ h.size ≤ 9223372036854775807) ∧ (-9223372036854775808 ≤ h.clock ∧ h.clock ≤ 9223372036854775807) ∧ h.root.length = 32 ∧ h.mac.length = 32
def St.cells (t : St) : List Value := t.fz.cells ++ ([.int .i64 t.at_] ++ (hcells t.mac ++ []))
def St.v (t : St) : Value := .agg t.cells.toArray
def St.fit (t : St) : Prop := t.fz.fit ∧ (-9223372036854775808 ≤ t.at_ ∧ t.at_ ≤ 9223372036854775807) ∧ t.mac.length = 32
theorem Fz.cells_length (f : Fz) (h : f.root.length = 32) : f.cells.length = 34 := by simp [Fz.cells, hcells_length, h]
theorem Hd.cells_length (f : Hd) (h : f.root.length = 32) (h2 : f.mac.length = 32) : f.cells.length = 66 := by simp [Hd.cells, hcells_length, h, h2]
theorem St.cells_length (t : St) (h : t.fz.root.length = 32) (h2 : t.mac.length = 32) : t.cells.length = 67 := by simp [St.cells, Fz.cells_length, hcells_length, h, h2]
theorem cells_one (s : List UInt8) : ∀ u ∈ hcells s, u.oneCell' = true := fun u hu => by
  obtain ⟨c, _, rfl⟩ := List.mem_map.1 hu
  rfl
theorem Fz.one (f : Fz) : ∀ u ∈ f.cells, u.oneCell' = true := fun u hu => by
  simp only [Fz.cells, List.mem_append, List.mem_cons, List.not_mem_nil, or_false] at hu
  rcases hu with (rfl | rfl) | hu
  · rfl
  · rfl
  · exact cells_one _ u hu
theorem Hd.one (f : Hd) : ∀ u ∈ f.cells, u.oneCell' = true := fun u hu => by
  simp only [Hd.cells, List.mem_append, List.mem_cons, List.not_mem_nil, or_false] at hu
  rcases hu with rfl | hu | rfl | hu
  · rfl
  · exact cells_one _ u hu
  · rfl
  · exact cells_one _ u hu
theorem St.one (t : St) : ∀ u ∈ t.cells, u.oneCell' = true := fun u hu => by
  simp only [St.cells, List.mem_append, List.mem_cons, List.not_mem_nil, or_false] at hu
  rcases hu with hu | rfl | hu
  · exact Fz.one _ u hu
  · rfl
  · exact cells_one _ u hu
theorem size_fz (f : Fz) (h : f.root.length = 32) : (Tryz.prog.info? 30).map (·.size) = some f.cells.toArray.size := by
  rw [List.size_toArray, f.cells_length h]; kernel_rfl
theorem size_hd (f : Hd) (h : f.root.length = 32) (h2 : f.mac.length = 32) : (Tryz.prog.info? 32).map (·.size) = some f.cells.toArray.size := by
  rw [List.size_toArray, f.cells_length h h2]; kernel_rfl
end Seal

/-! ### A freeze, a head, a stone in a block -/
def FzAt (w : World) (g : Nat) (f : Fz) : Prop := Blk w g 30 f.cells.toArray
def HdAt (w : World) (g : Nat) (f : Hd) : Prop := Blk w g 32 f.cells.toArray
section
variable {w : World} {g : Nat}
theorem FzAt.c0 {f : Fz} (h : FzAt w g f) : w.cell? ⟨g, 0, none⟩ = some (.int .i64 f.win) := Blk.cell h 0
theorem FzAt.c1 {f : Fz} (h : FzAt w g f) : w.cell? ⟨g, 1, none⟩ = some (.int .i64 f.cnt) := Blk.cell h 1
theorem FzAt.root {f : Fz} (h : FzAt w g f) : w.rangeAt g 2 (hcells f.root) := Blk.range h 2 rfl
theorem HdAt.c0 {f : Hd} (h : HdAt w g f) : w.cell? ⟨g, 0, none⟩ = some (.int .i64 f.size) := Blk.cell h 0
theorem HdAt.root {f : Hd} (h : HdAt w g f) : w.rangeAt g 1 (hcells f.root) := Blk.range h 1 rfl
theorem app3 (a b c d : List Value) : a ++ (b ++ (c ++ d)) = (a ++ b) ++ (c ++ d) := by simp
theorem HdAt.c33 {f : Hd} (h : HdAt w g f) (hr : f.root.length = 32) : w.cell? ⟨g, 33, none⟩ = some (.int .i64 f.clock) := by
  have h' := h
  unfold HdAt Hd.cells at h'
  rw [app3] at h'
  have := Blk.range h' 33 (by simp [hcells_length, hr])
  exact this 0 _ rfl
theorem HdAt.mac {f : Hd} (h : HdAt w g f) (hr : f.root.length = 32) : w.rangeAt g 34 (hcells f.mac) := by
  have h' := h
  unfold HdAt Hd.cells at h'
  rw [app3, ← List.append_assoc] at h'
  exact Blk.range h' 34 (by simp [hcells_length, hr])
theorem FzAt.ext {w' : World} {f : Fz} (h : FzAt w g f) (e : Ext w w') : FzAt w' g f := Blk.below h e (Blk.lt h)
theorem HdAt.ext {w' : World} {f : Hd} (h : HdAt w g f) (e : Ext w w') : HdAt w' g f := Blk.below h e (Blk.lt h)
theorem FzAt.grow {f : Fz} (h : FzAt w g f) (x : More w) : FzAt (grow w x) g f := h.ext (grow_ext x)
theorem HdAt.grow {f : Hd} (h : HdAt w g f) (x : More w) : HdAt (grow w x) g f := h.ext (grow_ext x)
end

/-! ### Two compared -/
theorem part_agg {t : TypeId} {n : Nat} (ha : ∀ w, (isAgg t).run Tryz.prog w = .ok true w) (hz : ∀ w, (Go.sizeOf t).run Tryz.prog w = .ok n w) (pre mid post : List Value) (o : Nat) (ho : o = pre.length) (hn : n = mid.length) (w : World) :
    (part t (pre ++ (mid ++ post)).toArray o).run Tryz.prog w = .ok (.agg mid.toArray) w := by
  subst ho hn
  unfold part
  rw [Sem.run_bind, ha]
  simp only [Result.andThen_ok, if_true]
  rw [Sem.run_bind, hz]
  simp
theorem part_cell {t : TypeId} (ha : ∀ w, (isAgg t).run Tryz.prog w = .ok false w) (pre post : List Value) (v : Value) (o : Nat) (ho : o = pre.length) (w : World) :
    (part t (pre ++ ([v] ++ post)).toArray o).run Tryz.prog w = .ok v w := by
  subst ho
  unfold part
  rw [Sem.run_bind, ha]
  simp
theorem eq_sumd (d : Nat) (xs ys : List UInt8) (hx : xs.length = 32) (hy : ys.length = 32) (w : World) : (Op.equalIn (d + 2) 28 (.agg (hcells xs).toArray) (.agg (hcells ys).toArray)).run Tryz.prog w = .ok (decide (xs = ys)) w :=
  run_equalIn_arr byteV (d + 1) _ 5 32 Tryz.underlying28 (fun w => by rw [Tryz.sizeOf5]) (fun w => by rw [Tryz.isAgg5]) (fun a b w => eq_u8 d a b w) xs ys hx hy w
theorem eq_intd (d : Nat) (a b : Int) (w : World) : (Op.equalIn (d + 1) 3 (.int .i64 a) (.int .i64 b)).run Tryz.prog w = .ok (a == b) w := run_equalIn_int w d _ _ _ _ _ Tryz.underlying3
instance : DecidableEq Fz := fun a b => decidable_of_iff (a.win = b.win ∧ a.cnt = b.cnt ∧ a.root = b.root) ⟨fun h => by cases a; cases b; simp_all, fun h => by subst h; exact ⟨rfl, rfl, rfl⟩⟩
instance : DecidableEq Hd := fun a b => decidable_of_iff (a.size = b.size ∧ a.root = b.root ∧ a.clock = b.clock ∧ a.mac = b.mac) ⟨fun h => by cases a; cases b; simp_all, fun h => by subst h; exact ⟨rfl, rfl, rfl, rfl⟩⟩
instance : DecidableEq St := fun a b => decidable_of_iff (a.fz = b.fz ∧ a.at_ = b.at_ ∧ a.mac = b.mac) ⟨fun h => by cases a; cases b; simp_all, fun h => by subst h; exact ⟨rfl, rfl, rfl⟩⟩
theorem part_i (pre post : List Value) (v : Value) (o : Nat) (ho : o = pre.length) (w : World) : (part 3 (pre ++ ([v] ++ post)).toArray o).run Tryz.prog w = .ok v w := part_cell (fun w => by rw [Tryz.isAgg3]) pre post v o ho w
theorem part_s (pre post : List Value) (s : List UInt8) (hs : s.length = 32) (o : Nat) (ho : o = pre.length) (w : World) : (part 28 (pre ++ (hcells s ++ post)).toArray o).run Tryz.prog w = .ok (.agg (hcells s).toArray) w := part_agg (n := 32) (fun w => by rw [Tryz.isAgg28]) (fun w => by rw [Tryz.sizeOf28]) pre (hcells s) post o ho (by rw [hcells_length, hs]) w
theorem part_f (pre post : List Value) (f : Fz) (hs : f.root.length = 32) (o : Nat) (ho : o = pre.length) (w : World) : (part 30 (pre ++ (f.cells ++ post)).toArray o).run Tryz.prog w = .ok f.v w := part_agg (n := 34) (fun w => by rw [Tryz.isAgg30]) (fun w => by rw [Tryz.sizeOf30]) pre f.cells post o ho (by rw [Fz.cells_length _ hs]) w
theorem eq_fzd (d : Nat) (a b : Fz) (ha : a.root.length = 32) (hb : b.root.length = 32) (w : World) : (Op.equalIn (d + 3) 30 a.v b.v).run Tryz.prog w = .ok (decide (a = b)) w := by
  have p0 : ∀ (f : Fz) w, (part 3 f.cells.toArray 0).run Tryz.prog w = .ok (.int .i64 f.win) w := fun f w => part_i [] ([.int .i64 f.cnt] ++ (hcells f.root ++ [])) _ 0 rfl w
  have p1 : ∀ (f : Fz) w, (part 3 f.cells.toArray 1).run Tryz.prog w = .ok (.int .i64 f.cnt) w := fun f w => part_i [.int .i64 f.win] (hcells f.root ++ []) _ 1 rfl w
  have p2 : ∀ (f : Fz) (h : f.root.length = 32) w, (part 28 f.cells.toArray 2).run Tryz.prog w = .ok (.agg (hcells f.root).toArray) w := fun f h w => part_s [.int .i64 f.win, .int .i64 f.cnt] [] f.root h 2 rfl w
  have qi : ∀ (x y : Int) w, (Op.equalIn (d + 2) 3 (.int .i64 x) (.int .i64 y)).run Tryz.prog w = .ok (x == y) w := fun x y w => eq_intd (d + 1) x y w
  have qs := fun w => eq_sumd d _ _ ha hb w
  unfold Fz.v
  rw [run_equalIn_struct w (d + 2) _ _ _ (by kernel_rfl) (by kernel_rfl)]
  unfold Program.fieldsOf
  rw [Tryz.underlying30]
  by_cases h1 : a.win = b.win
  · by_cases h2 : a.cnt = b.cnt
    · by_cases h3 : a.root = b.root
      · obtain rfl : a = b := by cases a; cases b; simp_all
        simp [Op.eqFields, Sem.run_bind, Sem.run_ite, p0, p1, p2 a ha, qi, qs, Result.andThen_ok]
      · have : a ≠ b := fun e => h3 (by rw [e])
        simp [Op.eqFields, Sem.run_bind, Sem.run_ite, h1, h2, h3, this, p0, p1, p2 a ha, p2 b hb, qi, qs, Result.andThen_ok]
    · have : a ≠ b := fun e => h2 (by rw [e])
      simp [Op.eqFields, Sem.run_bind, Sem.run_ite, h1, h2, this, p0, p1, qi, Result.andThen_ok]
  · have : a ≠ b := fun e => h1 (by rw [e])
    simp [Op.eqFields, Sem.run_bind, Sem.run_ite, h1, this, p0, qi, Result.andThen_ok]
theorem eq_fz (a b : Fz) (ha : a.root.length = 32) (hb : b.root.length = 32) (w : World) : (Op.equalIn 10000 30 a.v b.v).run Tryz.prog w = .ok (decide (a = b)) w := eq_fzd 9997 a b ha hb w
theorem eq_hd (a b : Hd) (ha : a.root.length = 32) (hb : b.root.length = 32) (ha2 : a.mac.length = 32) (hb2 : b.mac.length = 32) (w : World) : (Op.equalIn 10000 32 a.v b.v).run Tryz.prog w = .ok (decide (a = b)) w := by
  have p0 : ∀ (f : Hd) w, (part 3 f.cells.toArray 0).run Tryz.prog w = .ok (.int .i64 f.size) w := fun f w => part_i [] (hcells f.root ++ ([.int .i64 f.clock] ++ (hcells f.mac ++ []))) _ 0 rfl w
  have p1 : ∀ (f : Hd) (h : f.root.length = 32) w, (part 28 f.cells.toArray 1).run Tryz.prog w = .ok (.agg (hcells f.root).toArray) w := fun f h w => by
    unfold Hd.cells
    exact part_s [.int .i64 f.size] ([.int .i64 f.clock] ++ (hcells f.mac ++ [])) f.root h 1 rfl w
  have p2 : ∀ (f : Hd) (h : f.root.length = 32) w, (part 3 f.cells.toArray 33).run Tryz.prog w = .ok (.int .i64 f.clock) w := fun f h w => by
    unfold Hd.cells
    rw [app3]
    exact part_i ([.int .i64 f.size] ++ hcells f.root) (hcells f.mac ++ []) _ 33 (by simp [hcells_length, h]) w
  have p3 : ∀ (f : Hd) (h : f.root.length = 32) (h2 : f.mac.length = 32) w, (part 28 f.cells.toArray 34).run Tryz.prog w = .ok (.agg (hcells f.mac).toArray) w := fun f h h2 w => by
    unfold Hd.cells
    rw [app3, ← List.append_assoc]
    exact part_s (([.int .i64 f.size] ++ hcells f.root) ++ [.int .i64 f.clock]) [] f.mac h2 34 (by simp [hcells_length, h]) w
  have qi : ∀ (x y : Int) w, (Op.equalIn 9999 3 (.int .i64 x) (.int .i64 y)).run Tryz.prog w = .ok (x == y) w := fun x y w => eq_intd 9998 x y w
  have qs : ∀ w, (Op.equalIn 9999 28 (.agg (hcells a.root).toArray) (.agg (hcells b.root).toArray)).run Tryz.prog w = .ok (decide (a.root = b.root)) w := fun w => eq_sumd 9997 _ _ ha hb w
  have qm : ∀ w, (Op.equalIn 9999 28 (.agg (hcells a.mac).toArray) (.agg (hcells b.mac).toArray)).run Tryz.prog w = .ok (decide (a.mac = b.mac)) w := fun w => eq_sumd 9997 _ _ ha2 hb2 w
  unfold Hd.v
  rw [run_equalIn_struct w 9999 _ _ _ (by kernel_rfl) (by kernel_rfl)]
  unfold Program.fieldsOf
  rw [Tryz.underlying32]
  by_cases h1 : a.size = b.size
  · by_cases h2 : a.root = b.root
    · by_cases h3 : a.clock = b.clock
      · by_cases h4 : a.mac = b.mac
        · obtain rfl : a = b := by cases a; cases b; simp_all
          simp [Op.eqFields, Sem.run_bind, Sem.run_ite, p0, p1 a ha, p2 a ha, p3 a ha ha2, qi, qs, qm, Result.andThen_ok]
        · have : a ≠ b := fun e => h4 (by rw [e])
          rw [h2] at qs
          simp [Op.eqFields, Sem.run_bind, Sem.run_ite, p0, p1 a ha, p2 a ha, p3 a ha ha2, p1 b hb, p2 b hb, p3 b hb hb2, qi, qs, qm, h1, h2, h3, h4, this, Result.andThen_ok]
      · have : a ≠ b := fun e => h3 (by rw [e])
        rw [h2] at qs
        simp [Op.eqFields, Sem.run_bind, Sem.run_ite, p0, p1 a ha, p2 a ha, p1 b hb, p2 b hb, qi, qs, h1, h2, h3, this, Result.andThen_ok]
    · have : a ≠ b := fun e => h2 (by rw [e])
      simp [Op.eqFields, Sem.run_bind, Sem.run_ite, p0, p1 a ha, p1 b hb, qi, qs, h1, h2, this, Result.andThen_ok]
  · have : a ≠ b := fun e => h1 (by rw [e])
    simp [Op.eqFields, Sem.run_bind, Sem.run_ite, p0, qi, h1, this, Result.andThen_ok]
theorem guard_fz : Tryz.prog.eqGuardType Tryz.prog.depth 30 = false := by kernel_rfl
theorem guard_hd : Tryz.prog.eqGuardType Tryz.prog.depth 32 = false := by kernel_rfl
end Go.Proofs.YtcgnjdkennkheaaGreatDoor

namespace Go.Proofs.YtcgnjdkennkheaaGreatDoor
open Go.RowKit
open Seal (Fz Hd St)

theorem foldS : ∀ (l pre rest post : List Value), rest.length = l.length → ∀ off k, off + k = pre.length → List.foldl (fun (cs : Array Value) (x : Value × Nat) => cs.setIfInBounds (off + x.2) x.1) (pre ++ (rest ++ post)).toArray (l.zipIdx k) = (pre ++ (l ++ post)).toArray
  | [], pre, rest, post, h, off, k, hk => by
    obtain rfl : rest = [] := List.eq_nil_of_length_eq_zero h
    rfl
  | v :: l, pre, [], post, h, off, k, hk => by simp at h
  | v :: l, pre, r :: rest, post, h, off, k, hk => by
    have ih := foldS l (pre ++ [v]) rest post (by simpa using h) off (k + 1) (by simp; omega)
    simp only [List.zipIdx_cons, List.foldl_cons]
    have e : (pre ++ (r :: rest ++ post)).toArray.setIfInBounds (off + k) v = ((pre ++ [v]) ++ (rest ++ post)).toArray := by
      rw [hk]
      simp [List.set_append_right]
    rw [e, ih]
    simp
theorem fill_one {place : Nat → Option (Nat × Nat)} {i off size : Nat} (hp : place i = some (off, size)) (v : Value) (pre old post : List Value) (ho : off = pre.length) (hv : v.cells.size = size) (hl : old.length = size) (ps : List (Nat × Value)) :
    Instr.fill place (pre ++ (old ++ post)).toArray ((i, v) :: ps) = Instr.fill place (pre ++ (v.cells.toList ++ post)).toArray ps := by
  subst ho hv
  conv => lhs; unfold Instr.fill
  rw [hp]
  simp only
  rw [if_neg (by simp; omega)]
  congr 1
  rw [← foldS v.cells.toList pre old post (by rw [hl]; simp) pre.length 0 (by omega), ← Array.foldl_toList]
  simp
theorem built_of {P : Program} {t : TypeId} {fs : Array Field} {z : Value} (hu : P.underlying t = some (.struct fs)) (hz : (P.info? t).map (·.zero) = some (some z)) {pl : List (Nat × Nat)} (hp : fs.toList.mapM (fun f => (P.info? f.type).map fun i => (f.offset, i.size)) = some pl) (ps : List (Nat × Value)) :
    P.built t ps = Instr.fill (pl.toArray[·]?) z.cells ps := by
  cases hi : P.info? t with
  | none => rw [hi] at hz; cases hz
  | some it =>
    rw [hi] at hz
    simp only [Option.map_some, Option.some.injEq] at hz
    unfold Program.built
    simp only [hi, hu, hz, hp]
theorem zero_fz : (Tryz.prog.info? 30).map (·.zero) = some (some (Fz.v ⟨0, 0, List.replicate 32 0⟩)) := by kernel_rfl
theorem zero_hd : (Tryz.prog.info? 32).map (·.zero) = some (some (Hd.v ⟨0, List.replicate 32 0, 0, List.replicate 32 0⟩)) := by kernel_rfl
theorem built_fz1 (a : Int) : Tryz.prog.built 30 [(0, .int .i64 a)] = some (Fz.cells ⟨a, 0, List.replicate 32 0⟩).toArray := by
  rw [built_of Tryz.underlying30 zero_fz (pl := [(0, 1), (1, 1), (2, 32)]) (by kernel_rfl)]
  exact fill_one (place := ([(0, 1), (1, 1), (2, 32)].toArray[·]?)) (i := 0) (off := 0) (size := 1) rfl (.int .i64 a) [] [.int .i64 0] ([.int .i64 0] ++ (hcells (List.replicate 32 0) ++ [])) rfl rfl rfl []
theorem built_fz2 (a b : Int) : Tryz.prog.built 30 [(0, .int .i64 a), (1, .int .i64 b)] = some (Fz.cells ⟨a, b, List.replicate 32 0⟩).toArray := by
  rw [built_of Tryz.underlying30 zero_fz (pl := [(0, 1), (1, 1), (2, 32)]) (by kernel_rfl)]
  have h1 := fill_one (place := ([(0, 1), (1, 1), (2, 32)].toArray[·]?)) (i := 0) (off := 0) (size := 1) rfl (.int .i64 a) [] [.int .i64 0] ([.int .i64 0] ++ (hcells (List.replicate 32 0) ++ [])) rfl rfl rfl [(1, .int .i64 b)]
  refine h1.trans ?_
  exact fill_one (i := 1) (off := 1) (size := 1) rfl (.int .i64 b) [.int .i64 a] [.int .i64 0] (hcells (List.replicate 32 0) ++ []) rfl rfl rfl []
theorem built_hd1 (a : Int) : Tryz.prog.built 32 [(0, .int .i64 a)] = some (Hd.cells ⟨a, List.replicate 32 0, 0, List.replicate 32 0⟩).toArray := by
  rw [built_of Tryz.underlying32 zero_hd (pl := [(0, 1), (1, 32), (33, 1), (34, 32)]) (by kernel_rfl)]
  exact fill_one (place := ([(0, 1), (1, 32), (33, 1), (34, 32)].toArray[·]?)) (i := 0) (off := 0) (size := 1) rfl (.int .i64 a) [] [.int .i64 0] (hcells (List.replicate 32 0) ++ ([.int .i64 0] ++ (hcells (List.replicate 32 0) ++ []))) rfl rfl rfl []
theorem built_hd3 (a : Int) (r : List UInt8) (hr : r.length = 32) (c : Int) : Tryz.prog.built 32 [(0, .int .i64 a), (1, sumV r), (2, .int .i64 c)] = some (Hd.cells ⟨a, r, c, List.replicate 32 0⟩).toArray := by
  rw [built_of Tryz.underlying32 zero_hd (pl := [(0, 1), (1, 32), (33, 1), (34, 32)]) (by kernel_rfl)]
  have h1 := fill_one (place := ([(0, 1), (1, 32), (33, 1), (34, 32)].toArray[·]?)) (i := 0) (off := 0) (size := 1) rfl (.int .i64 a) [] [.int .i64 0] (hcells (List.replicate 32 0) ++ ([.int .i64 0] ++ (hcells (List.replicate 32 0) ++ []))) rfl rfl rfl [(1, sumV r), (2, .int .i64 c)]
  refine h1.trans ?_
  have h2 := fill_one (place := ([(0, 1), (1, 32), (33, 1), (34, 32)].toArray[·]?)) (i := 1) (off := 1) (size := 32) rfl (sumV r) [.int .i64 a] (hcells (List.replicate 32 0)) ([.int .i64 0] ++ (hcells (List.replicate 32 0) ++ [])) rfl (by simp [sumV, Value.cells, hr]) (by simp [hcells]) [(2, .int .i64 c)]
  refine h2.trans ?_
  have h3 := fill_one (place := ([(0, 1), (1, 32), (33, 1), (34, 32)].toArray[·]?)) (i := 2) (off := 33) (size := 1) rfl (.int .i64 c) ([.int .i64 a] ++ hcells r) [.int .i64 0] (hcells (List.replicate 32 0) ++ []) (by simp [hcells_length, hr]) rfl rfl []
  have e1 : ([Value.int .i64 a] ++ ((sumV r).cells.toList ++ ([.int .i64 0] ++ (hcells (List.replicate 32 0) ++ [])))) = ([Value.int .i64 a] ++ hcells r) ++ ([.int .i64 0] ++ (hcells (List.replicate 32 0) ++ [])) := by simp [sumV_cells, Value.cells]
  rw [e1, h3]
  show some _ = some _
  (try simp [Hd.cells, Value.cells])
theorem stop_at {P : Program} {ops : Array Oper} {Q : Exit → Act → World → Prop} {o : Oper} {rest : List Oper} {a : Act} {w : World} (t : Tmp) (ho : o.dst = some t) (h : Stopped (wpList P ops Q (o :: rest) a w)) : wpList P ops Q (o :: rest) a w := h.go
theorem wpList_build_to {P : Program} {ops : Array Oper} {rest : List Oper} {o : Oper} {a : Act} {w : World} {Q : Exit → Act → World → Prop} (hg : o.guard = none) (t : TypeId) (parts : Array (Nat × Operand)) (ho : o.op = .build t parts) (vs : List (Nat × Value)) (hv : (parts.map fun (i, x) => (i, a.eval x)).toList = vs) (cells : Array Value) (hb : P.built t vs = some cells)
    (h : wpList P ops Q rest (a.put o.dst (.agg cells)) w) : wpList P ops Q (o :: rest) a w := by
  refine wpList_build hg t parts ho (by rw [hv, hb]; rfl) ?_
  rw [hv, hb]
  exact h
theorem mix_build {P : Program} {ops : Array Oper} {S : World → Prop} {T : Act → World → Prop} {o : Oper} {rest : List Oper} {a : Act} {w : World} (hl : loudOp o = false) (hw : Region.wanted o (yielded ops a.tmps) = true) (t : TypeId) (parts : Array (Nat × Operand)) (ho : o.op = .build t parts) (vs : List (Nat × Value)) (hv : (parts.map fun (i, x) => (i, a.eval x)).toList = vs) (cells : Array Value) (hb : P.built t vs = some cells)
    (h : wpMix P ops S loudOp T rest (a.put o.dst (.agg cells)) w) : wpMix P ops S loudOp T (o :: rest) a w := by
  refine mix_quiet hl hw fun K hK => ⟨.agg cells, fun w' hs => ?_, hK _ h⟩
  unfold Oper.quietAt execOp
  rw [← hv] at hb
  simp only [ho, Sem.run_bind, run_build w' t _ cells hb, Result.andThen_ok, Sem.run_pure]
  exact ⟨rfl, rfl⟩

end Go.Proofs.YtcgnjdkennkheaaGreatDoor

namespace Go.Proofs.YtcgnjdkennkheaaGreatDoor
open Go.RowKit
open Seal (Fz Hd St)
attribute [local go_sem] bs_size bs_toList2 bs_append bs_extract_end bs_extract_begin bs_get wrap64_b grow_cell grow_frozen

theorem join_flat : ∀ (l : List (List UInt8)), Lib.join l [] = joinB l
  | [] => rfl
  | x :: l => by
    rw [Lib.join_cons]
    unfold Lib.joinTail joinB
    simp
theorem Says_calls (l : List (List UInt8)) (b cap : Nat) (w : World) (hA : Rd w w.heap.size (some ⟨b, 0, none⟩) (l.map strV)) (hb : b < w.heap.size) (hn : l.length ≤ 100) (hcap : l.length ≤ cap) (hs : (joinB l).length ≤ 140737488355328) :
    Calls Tryz.prog 71 #[.slice (some ⟨b, 0, none⟩) l.length cap] w fun e w' => e = .returned (.string (bs (joinB l))) ∧ Ext w w' := by
  have hm : (l.map bs).map (fun s : ByteArray => s.data.toList) = l := by
    rw [List.map_map]
    conv => rhs; rw [← List.map_id l]
    exact List.map_congr_left fun x _ => bs_toList x
  have hj := Tryz.strings_Join b 0 cap (l.map bs) ⟨#[]⟩ w (fun j x hx => by
    rw [List.getElem?_map] at hx
    obtain ⟨y, hy, rfl⟩ := Option.map_eq_some_iff.1 hx
    have hne : l.map strV ≠ [] := by
      intro e
      rw [List.map_eq_nil_iff] at e
      rw [e] at hy
      simp at hy
    obtain ⟨b', off', e, _, hc⟩ := hA hne
    injection e with e
    injection e with e1 e2
    subst e1 e2
    exact hc j _ (by rw [List.getElem?_map, hy]; rfl)) hb (by rw [List.length_map]; omega) (by rw [List.length_map]; exact hcap) (by
    rw [hm]
    show (Lib.join l []).length ≤ _
    rw [join_flat]
    exact hs)
  rw [hm, List.length_map] at hj
  have hjj : Lib.join l (⟨#[]⟩ : ByteArray).data.toList = joinB l := join_flat l
  rw [hjj] at hj
  clear hm hjj
  go_enter Tryz.func71, Tryz.ntmps71
  go_wp2_with fail
  refine hj.mono ?_; rintro e w1 ⟨rfl, e1⟩
  go_wp2_with fail
  go_ret
  exact ⟨rfl, e1⟩
theorem u64_wrapS (t : Int) : IntKind.u64.wrap t = (Seal.u64 t : Int) := by
  have e : IntKind.u64.wrap t = t % 18446744073709551616 := rfl
  rw [e]
  unfold Seal.u64
  omega
theorem Number_calls (n : Int) (w : World) : Calls Tryz.prog 72 #[.int .i64 n] w fun e w' => e = .returned (.string (bs (Oct.put (Seal.u64 n)))) ∧ Ext w w' := by
  have hw := u64_wrapS n
  have hu := Seal.u64_lt n
  go_enter Tryz.func72, Tryz.ntmps72
  go_wp2_with fail
  refine (Put_calls (Seal.u64 n) _ (by omega) (by omega)).mono ?_; rintro e w1 ⟨rfl, e1⟩
  rw [Int.toNat_natCast]
  go_wp2_with fail
  go_ret
  exact ⟨rfl, e1⟩
theorem sSum_calls (s : List UInt8) (hs : s.length = 32) (w : World) : Calls Tryz.prog 73 #[sumV s] w fun e w' => e = .returned (.string (bs (Oct.text s))) ∧ Ext w w' := by
  unfold sumV
  go_enter Tryz.func73, Tryz.ntmps73
  have hB0 : ArrB (w.alloc (.cells (s.map byteV).toArray 28)) w.heap.size 28 s := Blk.new _ _ _
  have hE0 := (Ext.refl w).alloc (.cells (s.map byteV).toArray 28)
  go_wp2_with (refine stop_load 28 (.tmp 1) rfl ?_)
  refine ⟨?_⟩
  change wpList _ _ _ _ _ (w.alloc (.cells (s.map byteV).toArray 28))
  generalize w.alloc (.cells (s.map byteV).toArray 28) = w0 at *
  go_wp2_with (refine stop_load 28 (.tmp 1) rfl ?_)
  refine ⟨?_⟩
  refine wpList_load_row rfl 28 (.tmp 1) rfl w.heap.size (by rfl) 28 _ (0, 0) _ hB0 Tryz.underlying28 rfl (size32.trans (by simp [hs])) ?_
  simp only [Act.put, List.setIfInBounds_toArray, List.set_cons_zero, List.set_cons_succ]
  go_wp2_with fail
  change Calls _ _ #[sumV s] _ _
  refine (Bytes_calls s hs _).mono ?_; rintro e w1 ⟨rfl, e1⟩
  go_wp2_with fail
  refine (Text_calls s _ (by omega)).mono ?_; rintro e w2 ⟨rfl, e2⟩
  go_wp2_with fail
  go_ret
  exact ⟨rfl, (hE0.trans e1).trans e2⟩
theorem within_to (n most : Int) (b : Bool) (hb : decide (0 ≤ n ∧ n ≤ most) = b) (w : World) :
    Calls Tryz.prog 70 #[.int .i64 n, .int .i64 most] w fun e w' => e = .returned (.bool b) ∧ w = w' := by
  subst hb
  go_enter Tryz.func70, Tryz.ntmps70
  go_wp2
  all_goals
    go_ret
    refine ⟨ret_bool ?_, rfl⟩
    rw [Bool.eq_iff_iff]
    simp
    omega

namespace Seal
def Fz.outB (f : Fz) : List UInt8 := if f.may then f.bytes else []
def Fz.outE (f : Fz) : Int := if f.may then 0 else 1
def Hd.saysB (f : Hd) : List UInt8 := if f.may then f.says else []
def Hd.outB (f : Hd) : List UInt8 := if f.may then f.bytes else []
def Hd.outE (f : Hd) : Int := if f.may then 0 else 1
def St.saysB (f : St) : List UInt8 := if f.may then f.says else []
def St.outB (f : St) : List UInt8 := if f.may then f.bytes else []
def St.outE (f : St) : Int := if f.may then 0 else 1
theorem Fz.out_ok (f : Fz) (h : f.may) : f.outB = f.bytes ∧ f.outE = 0 := ⟨if_pos h, if_pos h⟩
theorem Fz.out_no (f : Fz) (h : ¬ f.may) : f.outB = [] ∧ f.outE = 1 := ⟨if_neg h, if_neg h⟩
theorem Hd.out_ok (f : Hd) (h : f.may) : f.saysB = f.says ∧ f.outB = f.bytes ∧ f.outE = 0 := ⟨if_pos h, if_pos h, if_pos h⟩
theorem Hd.out_no (f : Hd) (h : ¬ f.may) : f.saysB = [] ∧ f.outB = [] ∧ f.outE = 1 := ⟨if_neg h, if_neg h, if_neg h⟩
theorem St.out_ok (f : St) (h : f.may) : f.saysB = f.says ∧ f.outB = f.bytes ∧ f.outE = 0 := ⟨if_pos h, if_pos h, if_pos h⟩
theorem St.out_no (f : St) (h : ¬ f.may) : f.saysB = [] ∧ f.outB = [] ∧ f.outE = 1 := ⟨if_neg h, if_neg h, if_neg h⟩
theorem put_le (n : Nat) : (Oct.put n).length ≤ 9 := by
  have := Oct.put_length n
  have := Oct.need_le n
  omega
theorem text_le (s : List UInt8) : (Oct.text s).length ≤ 9 + s.length := by
  unfold Oct.text
  rw [List.length_append]
  have := put_le s.length
  omega
theorem Hd.says_length (h : Hd) (h1 : h.root.length = 32) : h.says.length ≤ 70 := by
  have a := put_le (u64 h.size)
  have b := put_le (u64 h.clock)
  have c := text_le h.root
  unfold Hd.says
  simp only [List.length_cons, List.length_append]
  omega
theorem St.says_length (t : St) (h1 : t.fz.root.length = 32) : t.says.length ≤ 100 := by
  have a := put_le (u64 t.at_)
  have b := text_le t.fz.bytes
  have c := Fz.bytes_length t.fz h1
  unfold St.says
  simp only [List.length_cons, List.length_append]
  omega
end Seal

set_option maxHeartbeats 1000000 in
theorem FreezeBytes_calls (f : Fz) (hf : f.root.length = 32) (w : World) : Calls Tryz.prog 32 #[f.v] w fun e w' => e = .returned (.tuple #[.string (bs f.outB), .int .i64 f.outE]) ∧ Ext w w' := by
  have hB0 : FzAt (w.alloc (.cells f.cells.toArray 30)) w.heap.size f := by
    have := Blk.new w 30 f.cells.toArray
    exact this
  have hE0 : Ext w (w.alloc (.cells f.cells.toArray 30)) := (Ext.refl w).alloc _
  have c0 := hB0.c0
  have c1 := hB0.c1
  by_cases hm : f.may
  · skip
    obtain ⟨ho, he⟩ := Seal.Fz.out_ok f hm
    rw [ho, he]
    have d1 : decide (0 ≤ f.win ∧ f.win ≤ 1125899906842624) = true := by simp; exact ⟨hm.1, hm.2.1⟩
    have d2 : decide (0 ≤ f.cnt ∧ f.cnt ≤ 4000) = true := by have := hm.2.2; simp; omega
    have d3 : (f.cnt == 0) = false := by have := hm.2.2; rw [beq_eq_false_iff_ne]; omega
    have hj : Seal.Fz.bytes f = joinB [[70], Oct.put (Seal.u64 f.win), Oct.put (Seal.u64 f.cnt), Oct.text f.root] := by unfold Seal.Fz.bytes joinB; simp
    have hjl : (joinB [[70], Oct.put (Seal.u64 f.win), Oct.put (Seal.u64 f.cnt), Oct.text f.root]).length ≤ 140737488355328 := by rw [← hj]; have := Seal.Fz.bytes_length f hf; omega
    rw [hj]
    clear ho he hm hj
    unfold Seal.Fz.v
    go_enter Tryz.func32, Tryz.ntmps32
    go_wp2_with (go_at_call 70; refine (within_to _ _ _ (by assumption) _).mono ?_; rintro e w' ⟨rfl, rfl⟩)
    have hlt : w.heap.size < (w.alloc (.cells f.cells.toArray 30)).heap.size := Blk.lt hB0
    change (Code.region _ _ _).wp _ _ _ (w.alloc (.cells f.cells.toArray 30))
    generalize (w.alloc (.cells f.cells.toArray 30)) = w0 at *
    have hroot := hB0.root
    refine region_mix0 (by kernel_rfl) (by kernel_rfl) (fun x => ?_)
    repeat (first | (refine mix_quiet (by rfl) (by rfl) (fun K hK => ?_); go_big_quiet_op; refine hK _ ?_; clear hK K) | (refine mix_skip (by rfl) ?_; simp only [Act.put, List.setIfInBounds_toArray, List.set_cons_zero, List.set_cons_succ]))
    (refine mix_loud (by rfl) (by rfl) (fun K E hK => ?_); go_big_op)
    refine (Number_calls f.win _).mono ?_; rintro e w3 ⟨rfl, hd⟩
    obtain ⟨x1, rfl⟩ := more_ext x hd
    refine hK _ _ ⟨_, rfl⟩ ?_; clear hK K E hd
    repeat (first | (refine mix_quiet (by rfl) (by rfl) (fun K hK => ?_); go_big_quiet_op; refine hK _ ?_; clear hK K) | (refine mix_skip (by rfl) ?_; simp only [Act.put, List.setIfInBounds_toArray, List.set_cons_zero, List.set_cons_succ]))
    (refine mix_loud (by rfl) (by rfl) (fun K E hK => ?_); go_big_op)
    refine (Number_calls f.cnt _).mono ?_; rintro e w3 ⟨rfl, hd⟩
    obtain ⟨x2, rfl⟩ := more_ext x1 hd
    refine hK _ _ ⟨_, rfl⟩ ?_; clear hK K E hd
    iterate 1 (first | (refine mix_quiet (by rfl) (by rfl) (fun K hK => ?_); go_big_quiet_op; refine hK _ ?_; clear hK K) | (refine mix_skip (by rfl) ?_; simp only [Act.put, List.setIfInBounds_toArray, List.set_cons_zero, List.set_cons_succ]))
    refine mix_mid (by rfl) (by rfl) 28 (.tmp 25) rfl w.heap.size 2 (by rfl) (hcells f.root) _ hroot hlt Tryz.underlying28 rfl (size32l _ hf) ?_
    simp only [Act.put, List.setIfInBounds_toArray, List.set_cons_zero, List.set_cons_succ]
    (refine mix_loud (by rfl) (by rfl) (fun K E hK => ?_); go_big_op)
    refine (sSum_calls f.root hf _).mono ?_; rintro e w3 ⟨rfl, hd⟩
    obtain ⟨x3, rfl⟩ := more_ext x2 hd
    refine hK _ _ ⟨_, rfl⟩ ?_; clear hK K E hd
    (refine mix_loud (by rfl) (by rfl) (fun K E hK => ?_); go_big_op)
    obtain ⟨x4, hy1⟩ := more_of ((grow_ext x3).alloc (.cells #[.string ⟨#[70]⟩, .string (bs (Oct.put (Seal.u64 f.win))), .string (bs (Oct.put (Seal.u64 f.cnt))), .string (bs (Oct.text f.root))] 9))
    have hRd : Rd ((grow w0 x3).alloc (.cells #[.string ⟨#[70]⟩, .string (bs (Oct.put (Seal.u64 f.win))), .string (bs (Oct.put (Seal.u64 f.cnt))), .string (bs (Oct.text f.root))] 9)) ((grow w0 x3).alloc (.cells #[.string ⟨#[70]⟩, .string (bs (Oct.put (Seal.u64 f.win))), .string (bs (Oct.put (Seal.u64 f.cnt))), .string (bs (Oct.text f.root))] 9)).heap.size (some ⟨(grow w0 x3).heap.size, 0, none⟩) ([[70], Oct.put (Seal.u64 f.win), Oct.put (Seal.u64 f.cnt), Oct.text f.root].map strV) := Blk.rd (Blk.new (grow w0 x3) _ _)
    have hRdb : (grow w0 x3).heap.size < ((grow w0 x3).alloc (.cells #[.string ⟨#[70]⟩, .string (bs (Oct.put (Seal.u64 f.win))), .string (bs (Oct.put (Seal.u64 f.cnt))), .string (bs (Oct.text f.root))] 9)).heap.size := (Blk.new (grow w0 x3) _ _).lt
    rw [hy1] at hRd hRdb ⊢
    clear hy1
    generalize (grow w0 x3).heap.size = gs at *
    refine hK _ _ ⟨_, rfl⟩ ?_; clear hK K E
    (refine mix_loud (by rfl) (by rfl) (fun K E hK => ?_); go_big_op)
    refine (Says_calls [[70], Oct.put (Seal.u64 f.win), Oct.put (Seal.u64 f.cnt), Oct.text f.root] gs 4 _ hRd hRdb (by simp) (by simp) hjl).mono ?_; rintro e w3 ⟨rfl, hd⟩
    obtain ⟨x5, rfl⟩ := more_ext x4 hd
    refine hK _ _ ⟨_, rfl⟩ ?_; clear hK K E hd
    repeat (first | (refine mix_quiet (by rfl) (by rfl) (fun K hK => ?_); go_big_quiet_op; refine hK _ ?_; clear hK K) | (refine mix_skip (by rfl) ?_; simp only [Act.put, List.setIfInBounds_toArray, List.set_cons_zero, List.set_cons_succ]))
    refine mix_nil ?_
    go_wp2_with fail
    go_ret2
    exact ⟨rfl, hE0.trans (grow_ext _)⟩
  · obtain ⟨ho, he⟩ := Seal.Fz.out_no f hm
    rw [ho, he]
    unfold Seal.Fz.may at hm
    by_cases h1 : 0 ≤ f.win ∧ f.win ≤ 1125899906842624
    · have d1 : decide (0 ≤ f.win ∧ f.win ≤ 1125899906842624) = true := by simpa using h1
      by_cases h2 : f.cnt = 0
      · have d3 : (f.cnt == 0) = true := by rw [beq_iff_eq]; exact h2
        clear h1 h2 hm ho he
        unfold Seal.Fz.v
        go_enter Tryz.func32, Tryz.ntmps32
        go_wp2_with (go_at_call 70; refine (within_to _ _ _ (by assumption) _).mono ?_; rintro e w' ⟨rfl, rfl⟩)
        go_ret2
        exact ⟨rfl, hE0⟩
      · have d3 : (f.cnt == 0) = false := by rw [beq_eq_false_iff_ne]; exact h2
        have d2 : decide (0 ≤ f.cnt ∧ f.cnt ≤ 4000) = false := by rw [decide_eq_false_iff_not]; omega
        clear h1 h2 hm ho he
        unfold Seal.Fz.v
        go_enter Tryz.func32, Tryz.ntmps32
        go_wp2_with (go_at_call 70; refine (within_to _ _ _ (by assumption) _).mono ?_; rintro e w' ⟨rfl, rfl⟩)
        go_ret2
        exact ⟨rfl, hE0⟩
    · have d1 : decide (0 ≤ f.win ∧ f.win ≤ 1125899906842624) = false := by simpa using h1
      clear h1 hm ho he
      unfold Seal.Fz.v
      go_enter Tryz.func32, Tryz.ntmps32
      go_wp2_with (go_at_call 70; refine (within_to _ _ _ (by assumption) _).mono ?_; rintro e w' ⟨rfl, rfl⟩)
      go_ret2
      exact ⟨rfl, hE0⟩

theorem FreezeLeaf_calls (f : Fz) (hf : f.root.length = 32) (w : World) (KW : Keys w) : Calls Tryz.prog 46 #[f.v] w fun e w' => e = .returned (sumV (leafB f.outB)) ∧ Ext w w' := by
  have hB0 : FzAt ((w.alloc (.cells f.cells.toArray 30)).alloc (.cells ((zerosB 32).map byteV).toArray 28)) w.heap.size f := by
    have := Blk.new w 30 f.cells.toArray
    exact Blk.alloc (this) _
  have hB1 : ArrB ((w.alloc (.cells f.cells.toArray 30)).alloc (.cells ((zerosB 32).map byteV).toArray 28)) (w.heap.size + 1) 28 (zerosB 32) := by
    have := Blk.new (w.alloc (.cells f.cells.toArray 30)) 28 ((zerosB 32).map byteV).toArray
    rw [alloc_size] at this
    exact this
  have hE0 : Ext w ((w.alloc (.cells f.cells.toArray 30)).alloc (.cells ((zerosB 32).map byteV).toArray 28)) := ((Ext.refl w).alloc _).alloc _
  have hol : f.outB.length ≤ 70 := by
    unfold Seal.Fz.outB
    split
    · exact Seal.Fz.bytes_length f hf
    · simp
  obtain ⟨d, hd⟩ : ∃ d, d = f.outB := ⟨_, rfl⟩
  rw [← hd] at hol ⊢
  have Hd := Lib.hid hd; clear hd
  obtain ⟨z, hz⟩ : ∃ z, z = leafB d := ⟨_, rfl⟩
  rw [← hz]
  have Hz := Lib.hid hz; clear hz
  unfold Seal.Fz.v
  go_enter Tryz.func46, Tryz.ntmps46
  go_wp2_with (refine stop_load 30 (.tmp 1) rfl ?_)
  refine ⟨?_⟩
  change wpList _ _ _ _ _ ((w.alloc (.cells f.cells.toArray 30)).alloc (.cells ((zerosB 32).map byteV).toArray 28))
  generalize ((w.alloc (.cells f.cells.toArray 30)).alloc (.cells ((zerosB 32).map byteV).toArray 28)) = w0 at *
  refine wpList_load_row rfl 30 (.tmp 1) rfl w.heap.size (by rfl) 30 _ (0, 0) _ hB0 Tryz.underlying30 rfl (Seal.size_fz f hf) ?_
  simp only [Act.put, List.setIfInBounds_toArray, List.set_cons_zero, List.set_cons_succ]
  go_wp2_with fail
  change Calls _ _ #[f.v] _ _
  refine (FreezeBytes_calls f hf _).mono ?_; rw [← Hd.out]; rintro e w1 ⟨rfl, e1⟩
  generalize f.outE = q at *
  have hE1 := hE0.trans e1
  have hR1 := Blk.below hB1 e1 hB1.lt
  go_wp2_with fail
  refine (Leaf_calls d (by omega) _ (KW.ext hE1)).mono ?_; rw [← Hz.out]; rintro e w2 ⟨rfl, e2⟩
  have hR2 := Blk.below hR1 e2 (Blk.lt hR1)
  have hE2 := hE1.trans e2
  have hml : (z.map byteV).toArray.size = 32 := by rw [Hz.out]; simp [leafB_length]
  clear Hz
  unfold sumV
  go_wp2_with (refine stop_store 28 (.tmp 2) (.tmp 11) rfl ?_)
  refine ⟨?_⟩
  refine wpList_store_row rfl 28 (.tmp 2) (.tmp 11) rfl (w.heap.size + 1) _ (by rfl) (by rfl) 28 _ hR2 (size32.trans (by rw [hml])) (by rw [hml]; simp [zerosB]) (by simp [byteV, Value.oneCell']) ?_
  simp only [Act.put, List.setIfInBounds_toArray, List.set_cons_zero, List.set_cons_succ]
  go_wp2_with fail
  (try simp only [Exit.inBlock, Exit.then])
  exact bodyPost_ret (results_cell_row rfl _ _ (w.heap.size + 1) 28 _ (0, 0) _ rfl (Blk.row hR2 _) Tryz.underlying28 rfl (size32.trans (by rw [hml]))) rfl ⟨rfl, hE2.row (by omega) _⟩

set_option maxHeartbeats 1000000 in
theorem headSays_calls (f : Hd) (hf : f.root.length = 32) (w : World) : Calls Tryz.prog 74 #[f.v] w fun e w' => e = .returned (.tuple #[.string (bs f.saysB), .int .i64 f.outE]) ∧ Ext w w' := by
  have hB0 : HdAt (w.alloc (.cells f.cells.toArray 32)) w.heap.size f := by
    have := Blk.new w 32 f.cells.toArray
    exact this
  have hE0 : Ext w (w.alloc (.cells f.cells.toArray 32)) := (Ext.refl w).alloc _
  have c0 := hB0.c0
  have c1 := hB0.c33 hf
  by_cases hm : f.may
  · skip
    obtain ⟨ho, -, he⟩ := Seal.Hd.out_ok f hm
    rw [ho, he]
    have d1 : decide (0 ≤ f.size ∧ f.size ≤ 1099511627776) = true := by simp; exact ⟨hm.1, hm.2.1⟩
    have d2 : decide (0 ≤ f.clock ∧ f.clock ≤ 1125899906842624) = true := by have := hm.2.2; simp; omega
    have hj : Seal.Hd.says f = joinB [[72], Oct.put (Seal.u64 f.size), Oct.text f.root, Oct.put (Seal.u64 f.clock)] := by unfold Seal.Hd.says joinB; simp
    have hjl : (joinB [[72], Oct.put (Seal.u64 f.size), Oct.text f.root, Oct.put (Seal.u64 f.clock)]).length ≤ 140737488355328 := by rw [← hj]; have := Seal.Hd.says_length f hf; omega
    rw [hj]
    clear ho he hm hj
    unfold Seal.Hd.v
    go_enter Tryz.func74, Tryz.ntmps74
    go_wp2_with (go_at_call 70; refine (within_to _ _ _ (by assumption) _).mono ?_; rintro e w' ⟨rfl, rfl⟩)
    have hlt : w.heap.size < (w.alloc (.cells f.cells.toArray 32)).heap.size := Blk.lt hB0
    change (Code.region _ _ _).wp _ _ _ (w.alloc (.cells f.cells.toArray 32))
    generalize (w.alloc (.cells f.cells.toArray 32)) = w0 at *
    have hroot := hB0.root
    refine region_mix0 (by kernel_rfl) (by kernel_rfl) (fun x => ?_)
    repeat (first | (refine mix_quiet (by rfl) (by rfl) (fun K hK => ?_); go_big_quiet_op; refine hK _ ?_; clear hK K) | (refine mix_skip (by rfl) ?_; simp only [Act.put, List.setIfInBounds_toArray, List.set_cons_zero, List.set_cons_succ]))
    (refine mix_loud (by rfl) (by rfl) (fun K E hK => ?_); go_big_op)
    refine (Number_calls f.size _).mono ?_; rintro e w3 ⟨rfl, hd⟩
    obtain ⟨x1, rfl⟩ := more_ext x hd
    refine hK _ _ ⟨_, rfl⟩ ?_; clear hK K E hd
    iterate 1 (first | (refine mix_quiet (by rfl) (by rfl) (fun K hK => ?_); go_big_quiet_op; refine hK _ ?_; clear hK K) | (refine mix_skip (by rfl) ?_; simp only [Act.put, List.setIfInBounds_toArray, List.set_cons_zero, List.set_cons_succ]))
    refine mix_mid (by rfl) (by rfl) 28 (.tmp 17) rfl w.heap.size 1 (by rfl) (hcells f.root) _ hroot hlt Tryz.underlying28 rfl (size32l _ hf) ?_
    simp only [Act.put, List.setIfInBounds_toArray, List.set_cons_zero, List.set_cons_succ]
    (refine mix_loud (by rfl) (by rfl) (fun K E hK => ?_); go_big_op)
    refine (sSum_calls f.root hf _).mono ?_; rintro e w3 ⟨rfl, hd⟩
    obtain ⟨x2, rfl⟩ := more_ext x1 hd
    refine hK _ _ ⟨_, rfl⟩ ?_; clear hK K E hd
    repeat (first | (refine mix_quiet (by rfl) (by rfl) (fun K hK => ?_); go_big_quiet_op; refine hK _ ?_; clear hK K) | (refine mix_skip (by rfl) ?_; simp only [Act.put, List.setIfInBounds_toArray, List.set_cons_zero, List.set_cons_succ]))
    (refine mix_loud (by rfl) (by rfl) (fun K E hK => ?_); go_big_op)
    refine (Number_calls f.clock _).mono ?_; rintro e w3 ⟨rfl, hd⟩
    obtain ⟨x3, rfl⟩ := more_ext x2 hd
    refine hK _ _ ⟨_, rfl⟩ ?_; clear hK K E hd
    (refine mix_loud (by rfl) (by rfl) (fun K E hK => ?_); go_big_op)
    obtain ⟨x4, hy1⟩ := more_of ((grow_ext x3).alloc (.cells #[.string ⟨#[72]⟩, .string (bs (Oct.put (Seal.u64 f.size))), .string (bs (Oct.text f.root)), .string (bs (Oct.put (Seal.u64 f.clock)))] 9))
    have hRd : Rd ((grow w0 x3).alloc (.cells #[.string ⟨#[72]⟩, .string (bs (Oct.put (Seal.u64 f.size))), .string (bs (Oct.text f.root)), .string (bs (Oct.put (Seal.u64 f.clock)))] 9)) ((grow w0 x3).alloc (.cells #[.string ⟨#[72]⟩, .string (bs (Oct.put (Seal.u64 f.size))), .string (bs (Oct.text f.root)), .string (bs (Oct.put (Seal.u64 f.clock)))] 9)).heap.size (some ⟨(grow w0 x3).heap.size, 0, none⟩) ([[72], Oct.put (Seal.u64 f.size), Oct.text f.root, Oct.put (Seal.u64 f.clock)].map strV) := Blk.rd (Blk.new (grow w0 x3) _ _)
    have hRdb : (grow w0 x3).heap.size < ((grow w0 x3).alloc (.cells #[.string ⟨#[72]⟩, .string (bs (Oct.put (Seal.u64 f.size))), .string (bs (Oct.text f.root)), .string (bs (Oct.put (Seal.u64 f.clock)))] 9)).heap.size := (Blk.new (grow w0 x3) _ _).lt
    rw [hy1] at hRd hRdb ⊢
    clear hy1
    generalize (grow w0 x3).heap.size = gs at *
    refine hK _ _ ⟨_, rfl⟩ ?_; clear hK K E
    (refine mix_loud (by rfl) (by rfl) (fun K E hK => ?_); go_big_op)
    refine (Says_calls [[72], Oct.put (Seal.u64 f.size), Oct.text f.root, Oct.put (Seal.u64 f.clock)] gs 4 _ hRd hRdb (by simp) (by simp) hjl).mono ?_; rintro e w3 ⟨rfl, hd⟩
    obtain ⟨x5, rfl⟩ := more_ext x4 hd
    refine hK _ _ ⟨_, rfl⟩ ?_; clear hK K E hd
    repeat (first | (refine mix_quiet (by rfl) (by rfl) (fun K hK => ?_); go_big_quiet_op; refine hK _ ?_; clear hK K) | (refine mix_skip (by rfl) ?_; simp only [Act.put, List.setIfInBounds_toArray, List.set_cons_zero, List.set_cons_succ]))
    refine mix_nil ?_
    go_wp2_with fail
    go_ret2
    exact ⟨rfl, hE0.trans (grow_ext _)⟩
  · obtain ⟨ho, -, he⟩ := Seal.Hd.out_no f hm
    rw [ho, he]
    unfold Seal.Hd.may at hm
    by_cases h1 : 0 ≤ f.size ∧ f.size ≤ 1099511627776
    · have d1 : decide (0 ≤ f.size ∧ f.size ≤ 1099511627776) = true := by simpa using h1
      have d2 : decide (0 ≤ f.clock ∧ f.clock ≤ 1125899906842624) = false := by rw [decide_eq_false_iff_not]; omega
      clear h1 hm ho he
      unfold Seal.Hd.v
      go_enter Tryz.func74, Tryz.ntmps74
      go_wp2_with (go_at_call 70; refine (within_to _ _ _ (by assumption) _).mono ?_; rintro e w' ⟨rfl, rfl⟩)
      go_ret2
      exact ⟨rfl, hE0⟩
    · have d1 : decide (0 ≤ f.size ∧ f.size ≤ 1099511627776) = false := by simpa using h1
      clear h1 hm ho he
      unfold Seal.Hd.v
      go_enter Tryz.func74, Tryz.ntmps74
      go_wp2_with (go_at_call 70; refine (within_to _ _ _ (by assumption) _).mono ?_; rintro e w' ⟨rfl, rfl⟩)
      go_ret2
      exact ⟨rfl, hE0⟩

end Go.Proofs.YtcgnjdkennkheaaGreatDoor

namespace Go.Proofs.YtcgnjdkennkheaaGreatDoor
open Go.RowKit
open Seal (Fz Hd St)
attribute [local go_sem] bs_size bs_toList2 bs_append bs_extract_end bs_extract_begin bs_get wrap64_b grow_cell grow_frozen

theorem list_wantS {P : Program} {ops : Array Oper} {Q : Exit → Act → World → Prop} {a : Act} {w : World} {rest : List Oper} {o : Oper} (hw : Region.wanted o (yielded ops a.tmps) = true)
    (h : ∀ K : Act → World → Prop, (∀ a w, wpList P ops Q rest a w → K a w) → o.wp P a w K Q) : wpList P ops Q (o :: rest) a w := wpList_step fun K hK => by rw [if_pos hw]; exact h K hK
theorem joinB_one (s : List UInt8) : joinB [s] = s := by simp [joinB]
theorem joinB_two (s t : List UInt8) : joinB [s, t] = s ++ t := by simp [joinB]
namespace Seal
/-- What is signed. -/
def signB (key s : List UInt8) (e : Int) : List UInt8 := if e = 0 then macOf key s else List.replicate 32 0
theorem signB_length (key s : List UInt8) (e : Int) : (signB key s e).length = 32 := by
  unfold signB
  split
  · exact macOf_length _ _
  · simp
def Hd.sign (key : List UInt8) (size : Int) (root : List UInt8) (clock : Int) : Hd := ⟨size, root, clock, signB key (Hd.saysB ⟨size, root, clock, List.replicate 32 0⟩) (Hd.outE ⟨size, root, clock, List.replicate 32 0⟩)⟩
def St.sign (key : List UInt8) (f : Fz) (t : Int) : St := ⟨f, t, signB key (St.saysB ⟨f, t, List.replicate 32 0⟩) (St.outE ⟨f, t, List.replicate 32 0⟩)⟩
def Hd.rightB (key : List UInt8) (f : Hd) : Bool := decide (f.may ∧ f.mac = macOf key f.says)
def St.rightB (key : List UInt8) (f : St) : Bool := decide (f.may ∧ f.mac = macOf key f.says)
theorem Hd.saysB_length (f : Hd) (h : f.root.length = 32) : f.saysB.length ≤ 100 := by
  unfold Hd.saysB
  split
  · have := Hd.says_length f h; omega
  · simp
theorem St.saysB_length (f : St) (h : f.fz.root.length = 32) : f.saysB.length ≤ 100 := by
  unfold St.saysB
  split
  · exact St.says_length f h
  · simp
theorem Hd.outE_cases (f : Hd) : f.outE = 0 ∨ f.outE = 1 := by
  unfold Hd.outE
  split
  · exact .inl rfl
  · exact .inr rfl
theorem St.outE_cases (f : St) : f.outE = 0 ∨ f.outE = 1 := by
  unfold St.outE
  split
  · exact .inl rfl
  · exact .inr rfl
end Seal

set_option maxHeartbeats 1000000 in
theorem HeadBytes_calls (f : Hd) (hf : f.root.length = 32) (hg : f.mac.length = 32) (w : World) : Calls Tryz.prog 33 #[f.v] w fun e w' => e = .returned (.tuple #[.string (bs f.outB), .int .i64 f.outE]) ∧ Ext w w' := by
  have hB0 : HdAt (w.alloc (.cells f.cells.toArray 32)) w.heap.size f := by
    have := Blk.new w 32 f.cells.toArray
    exact this
  have hE0 : Ext w (w.alloc (.cells f.cells.toArray 32)) := (Ext.refl w).alloc _
  by_cases hm : f.may
  · obtain ⟨hs, ho, he⟩ := Seal.Hd.out_ok f hm
    have hj : joinB [f.says, Oct.text f.mac] = f.bytes := by rw [joinB_two]; rfl
    have hjl : (joinB [f.says, Oct.text f.mac]).length ≤ 140737488355328 := by
      rw [joinB_two, List.length_append]
      have a := Seal.text_le f.mac
      have b := Seal.Hd.says_length f hf
      omega
    rw [ho, he, ← hj]
    clear hj hm
    unfold Seal.Hd.v
    go_enter Tryz.func33, Tryz.ntmps33
    go_wp2_with (refine stop_load 32 (.tmp 1) rfl ?_)
    refine ⟨?_⟩
    change wpList _ _ _ _ _ (w.alloc (.cells f.cells.toArray 32))
    generalize (w.alloc (.cells f.cells.toArray 32)) = w0 at *
    refine wpList_load_row rfl 32 (.tmp 1) rfl w.heap.size (by rfl) 32 _ (0, 0) _ hB0 Tryz.underlying32 rfl (Seal.size_hd f hf hg) ?_
    simp only [Act.put, List.setIfInBounds_toArray, List.set_cons_zero, List.set_cons_succ]
    go_wp2_with fail
    change Calls _ _ #[f.v] _ _
    refine (headSays_calls f hf _).mono ?_; rw [hs, he]; rintro e w1 ⟨rfl, e1⟩
    have hB1 := HdAt.ext hB0 e1
    have hE1 := hE0.trans e1
    clear hB0 hE0 e1 hs ho he
    have hmac := HdAt.mac hB1 hf
    have hlt := Blk.lt hB1
    go_wp2_with (refine stop_load 28 (.tmp 15) rfl ?_)
    refine ⟨?_⟩
    refine wpList_load_mid rfl 28 (.tmp 15) rfl w.heap.size 34 (by rfl) (hcells f.mac) _ hmac Tryz.underlying28 rfl (size32l _ hg) ?_
    simp only [Act.put, List.setIfInBounds_toArray, List.set_cons_zero, List.set_cons_succ]
    go_wp2_with fail
    change Calls _ _ #[sumV f.mac] _ _
    refine (sSum_calls f.mac hg _).mono ?_; rintro e w2 ⟨rfl, e2⟩
    have hE2 := hE1.trans e2
    go_wp2_with fail
    have hRd : Rd (w2.alloc (.cells #[.string (bs f.says), .string (bs (Oct.text f.mac))] 9)) (w2.alloc (.cells #[.string (bs f.says), .string (bs (Oct.text f.mac))] 9)).heap.size (some ⟨w2.heap.size, 0, none⟩) ([f.says, Oct.text f.mac].map strV) := Blk.rd (Blk.new w2 _ _)
    refine (Says_calls [f.says, Oct.text f.mac] w2.heap.size 2 _ hRd (Blk.new w2 _ _).lt (by simp) (by simp) hjl).mono ?_; rintro e w3 ⟨rfl, e3⟩
    go_wp2_with fail
    go_ret2
    exact ⟨rfl, (hE2.alloc _).trans e3⟩
  · obtain ⟨hs, ho, he⟩ := Seal.Hd.out_no f hm
    rw [ho, he]
    clear hm
    unfold Seal.Hd.v
    go_enter Tryz.func33, Tryz.ntmps33
    go_wp2_with (refine stop_load 32 (.tmp 1) rfl ?_)
    refine ⟨?_⟩
    change wpList _ _ _ _ _ (w.alloc (.cells f.cells.toArray 32))
    generalize (w.alloc (.cells f.cells.toArray 32)) = w0 at *
    refine wpList_load_row rfl 32 (.tmp 1) rfl w.heap.size (by rfl) 32 _ (0, 0) _ hB0 Tryz.underlying32 rfl (Seal.size_hd f hf hg) ?_
    simp only [Act.put, List.setIfInBounds_toArray, List.set_cons_zero, List.set_cons_succ]
    go_wp2_with fail
    change Calls _ _ #[f.v] _ _
    refine (headSays_calls f hf _).mono ?_; rw [hs, he]; rintro e w1 ⟨rfl, e1⟩
    have hB1 := HdAt.ext hB0 e1
    have hE1 := hE0.trans e1
    clear hB0 hE0 e1 hs ho he
    go_wp2_with fail
    go_ret2
    exact ⟨rfl, hE1⟩

set_option maxHeartbeats 1000000 in
theorem HeadRight_calls (key : List UInt8) (hk : key.length ≤ 4611686018427387904) (f : Hd) (hf : f.root.length = 32) (hg : f.mac.length = 32) (w : World) (KW : Keys w) : Calls Tryz.prog 47 #[.string (bs key), f.v] w fun e w' => e = .returned (.bool (f.rightB key)) ∧ Ext w w' := by
  have hB0 : HdAt (w.alloc (.cells f.cells.toArray 32)) w.heap.size f := by
    have := Blk.new w 32 f.cells.toArray
    exact this
  have hE0 : Ext w (w.alloc (.cells f.cells.toArray 32)) := (Ext.refl w).alloc _
  obtain ⟨r, hr⟩ : ∃ r, r = f.rightB key := ⟨_, rfl⟩
  rw [← hr]
  by_cases hm : f.may
  · obtain ⟨hs, ho, he⟩ := Seal.Hd.out_ok f hm
    have hr2 : decide (f.mac = macOf key (joinB [f.says])) = r := by
      rw [hr, joinB_one]
      unfold Seal.Hd.rightB
      rw [Bool.eq_iff_iff, decide_eq_true_eq, decide_eq_true_eq]
      exact ⟨fun h => ⟨hm, h⟩, fun h => h.2⟩
    have hsl := Seal.Hd.says_length f hf
    have Hr := Lib.hid hr2; clear hr hr2 hm
    unfold Seal.Hd.v
    go_enter Tryz.func47, Tryz.ntmps47
    go_wp2_with (refine stop_load 32 (.tmp 3) rfl ?_)
    refine ⟨?_⟩
    change wpList _ _ _ _ _ (w.alloc (.cells f.cells.toArray 32))
    generalize (w.alloc (.cells f.cells.toArray 32)) = w0 at *
    refine wpList_load_row rfl 32 (.tmp 3) rfl w.heap.size (by rfl) 32 _ (0, 0) _ hB0 Tryz.underlying32 rfl (Seal.size_hd f hf hg) ?_
    simp only [Act.put, List.setIfInBounds_toArray, List.set_cons_zero, List.set_cons_succ]
    go_wp2_with fail
    change Calls _ _ #[f.v] _ _
    refine (headSays_calls f hf _).mono ?_; rw [hs, he]; rintro e w1 ⟨rfl, e1⟩
    have hB1 := HdAt.ext hB0 e1
    have hE1 := hE0.trans e1
    clear hB0 hE0 e1 hs ho he
    have hmac := HdAt.mac hB1 hf
    have hlt := Blk.lt hB1
    generalize f.says = sy at *
    go_wp2_with (refine stop_load 28 (.tmp 16) rfl ?_)
    refine ⟨?_⟩
    refine list_wantS (by rfl) (fun K hK => ?_)
    refine wp_load_mid 28 (.tmp 16) rfl w.heap.size 34 (by rfl) (hcells f.mac) _ hmac Tryz.underlying28 rfl (size32l _ hg) ?_
    refine hK _ _ ?_; clear hK K
    simp only [Act.put, List.setIfInBounds_toArray, List.set_cons_zero, List.set_cons_succ]
    go_wp2_with fail
    change Calls _ _ #[.string (bs key), sumV f.mac, _] _ _
    have hRd : Rd (w1.alloc (.cells #[.string (bs sy)] 9)) (w1.alloc (.cells #[.string (bs sy)] 9)).heap.size (some ⟨w1.heap.size, 0, none⟩) ([sy].map strV) := Blk.rd (Blk.new w1 _ _)
    refine (MacRight_calls key f.mac hk hg [sy] _ 1 _ (KW.ext (hE1.alloc _)) hRd (by simp) (by rw [joinB_one]; omega)).mono ?_; rw [Hr.out]; rintro e w2 ⟨rfl, e2⟩
    go_wp2_with fail
    go_ret
    exact ⟨rfl, (hE1.alloc _).trans e2⟩
  · obtain ⟨hs, ho, he⟩ := Seal.Hd.out_no f hm
    have hr2 : r = false := by
      rw [hr]
      unfold Seal.Hd.rightB
      rw [decide_eq_false_iff_not]
      exact fun h => hm h.1
    subst hr2
    clear hm hr
    unfold Seal.Hd.v
    go_enter Tryz.func47, Tryz.ntmps47
    go_wp2_with (refine stop_load 32 (.tmp 3) rfl ?_)
    refine ⟨?_⟩
    change wpList _ _ _ _ _ (w.alloc (.cells f.cells.toArray 32))
    generalize (w.alloc (.cells f.cells.toArray 32)) = w0 at *
    refine wpList_load_row rfl 32 (.tmp 3) rfl w.heap.size (by rfl) 32 _ (0, 0) _ hB0 Tryz.underlying32 rfl (Seal.size_hd f hf hg) ?_
    simp only [Act.put, List.setIfInBounds_toArray, List.set_cons_zero, List.set_cons_succ]
    go_wp2_with fail
    change Calls _ _ #[f.v] _ _
    refine (headSays_calls f hf _).mono ?_; rw [hs, he]; rintro e w1 ⟨rfl, e1⟩
    have hB1 := HdAt.ext hB0 e1
    have hE1 := hE0.trans e1
    clear hB0 hE0 e1 hs ho he
    go_wp2_with fail
    go_ret
    exact ⟨rfl, hE1⟩

end Go.Proofs.YtcgnjdkennkheaaGreatDoor

namespace Go.Proofs.YtcgnjdkennkheaaGreatDoor
open Go.RowKit
open Seal (Fz Hd St)
attribute [local go_sem] bs_size bs_toList2 bs_append bs_extract_end bs_extract_begin bs_get wrap64_b grow_cell grow_frozen


end Go.Proofs.YtcgnjdkennkheaaGreatDoor

namespace Go.Proofs.YtcgnjdkennkheaaGreatDoor
open Go.RowKit
open Seal (Fz Hd St)
attribute [local go_sem] bs_size bs_toList2 bs_append bs_extract_end bs_extract_begin bs_get wrap64_b grow_cell grow_frozen

theorem refSSum_calls (s : List UInt8) (hs : s.length = 32) (w : World) : Calls Tryz.prog 54 #[sumV s] w fun e w' => e = .returned (.string (bs (Oct.text s))) ∧ Ext w w' := by
  unfold sumV
  go_enter Tryz.func54, Tryz.ntmps54
  have hB0 : ArrB (w.alloc (.cells (s.map byteV).toArray 28)) w.heap.size 28 s := Blk.new _ _ _
  have hE0 := (Ext.refl w).alloc (.cells (s.map byteV).toArray 28)
  go_wp2_with (refine stop_load 28 (.tmp 1) rfl ?_)
  refine ⟨?_⟩
  change wpList _ _ _ _ _ (w.alloc (.cells (s.map byteV).toArray 28))
  generalize w.alloc (.cells (s.map byteV).toArray 28) = w0 at *
  go_wp2_with (refine stop_load 28 (.tmp 1) rfl ?_)
  refine ⟨?_⟩
  refine wpList_load_row rfl 28 (.tmp 1) rfl w.heap.size (by rfl) 28 _ (0, 0) _ hB0 Tryz.underlying28 rfl (size32.trans (by simp [hs])) ?_
  simp only [Act.put, List.setIfInBounds_toArray, List.set_cons_zero, List.set_cons_succ]
  go_wp2_with fail
  change Calls _ _ #[sumV s] _ _
  refine (refBytes_calls s hs _).mono ?_; rintro e w1 ⟨rfl, e1⟩
  go_wp2_with fail
  refine (refText_calls s _ (by omega)).mono ?_; rintro e w2 ⟨rfl, e2⟩
  go_wp2_with fail
  go_ret
  exact ⟨rfl, (hE0.trans e1).trans e2⟩
theorem refPut_to (n : Int) (w : World) : Calls Tryz.prog 53 #[.int .u64 (Seal.u64 n : Int)] w fun e w' => e = .returned (.string (bs (Oct.put (Seal.u64 n)))) ∧ Ext w w' := by
  have hu := Seal.u64_lt n
  refine (refPut_calls (Seal.u64 n) w (by omega) (by omega)).mono ?_
  rw [Int.toNat_natCast]
  rintro e w' ⟨rfl, h⟩
  exact ⟨rfl, h⟩

set_option maxHeartbeats 1000000 in
theorem refFreezeBytes_calls (f : Fz) (hf : f.root.length = 32) (w : World) : Calls Tryz.prog 20 #[f.v] w fun e w' => e = .returned (.tuple #[.string (bs f.outB), .int .i64 f.outE]) ∧ Ext w w' := by
  have hB0 : FzAt (w.alloc (.cells f.cells.toArray 30)) w.heap.size f := by
    have := Blk.new w 30 f.cells.toArray
    exact this
  have hE0 : Ext w (w.alloc (.cells f.cells.toArray 30)) := (Ext.refl w).alloc _
  have c0 := hB0.c0
  have c1 := hB0.c1
  by_cases hm : f.may
  · skip
    obtain ⟨ho, he⟩ := Seal.Fz.out_ok f hm
    rw [ho, he]
    obtain ⟨m1, m2, m3, m4⟩ := hm
    have hw1 := u64_wrapS f.win
    have hw2 := u64_wrapS f.cnt
    have l1 := Seal.put_le (Seal.u64 f.win)
    have l2 := Seal.put_le (Seal.u64 f.cnt)
    have l3 := Seal.text_le f.root
    have hj : Seal.Fz.bytes f = (([70] ++ Oct.put (Seal.u64 f.win)) ++ Oct.put (Seal.u64 f.cnt)) ++ Oct.text f.root := by unfold Seal.Fz.bytes; simp
    rw [hj]
    clear ho he hj
    unfold Seal.Fz.v
    go_enter Tryz.func20, Tryz.ntmps20
    go_wp2_with fail
    have hlt : w.heap.size < (w.alloc (.cells f.cells.toArray 30)).heap.size := Blk.lt hB0
    change (Code.region _ _ _).wp _ _ _ (w.alloc (.cells f.cells.toArray 30))
    generalize (w.alloc (.cells f.cells.toArray 30)) = w0 at *
    have hroot := hB0.root
    have a1 : ¬ (9223372036854775807 < (1 : Nat) + (Oct.put (Seal.u64 f.win)).length) := by omega
    have a2 : ¬ (9223372036854775807 < ([70] ++ Oct.put (Seal.u64 f.win)).length + (Oct.put (Seal.u64 f.cnt)).length) := by simp; omega
    have a3 : ¬ (9223372036854775807 < (Oct.put (Seal.u64 f.win)).length + 1 + (Oct.put (Seal.u64 f.cnt)).length) := by omega
    have a4 : ¬ (9223372036854775807 < (([70] ++ Oct.put (Seal.u64 f.win)) ++ Oct.put (Seal.u64 f.cnt)).length + (Oct.text f.root).length) := by simp; omega
    have a5 : ¬ (9223372036854775807 < (Oct.put (Seal.u64 f.win)).length + 1 + (Oct.put (Seal.u64 f.cnt)).length + (Oct.text f.root).length) := by omega
    have a6 : ¬ (9223372036854775807 < (Oct.put (Seal.u64 f.win)).length + ((Oct.put (Seal.u64 f.cnt)).length + 1) + (Oct.text f.root).length) := by omega
    have a7 : ¬ (9223372036854775807 < (Oct.put (Seal.u64 f.win)).length + (Oct.put (Seal.u64 f.cnt)).length + 1 + (Oct.text f.root).length) := by omega
    refine region_mix0 (by kernel_rfl) (by kernel_rfl) (fun x => ?_)
    repeat (first | (refine mix_quiet (by rfl) (by rfl) (fun K hK => ?_); go_big_quiet_op; refine hK _ ?_; clear hK K) | (refine mix_skip (by rfl) ?_; simp only [Act.put, List.setIfInBounds_toArray, List.set_cons_zero, List.set_cons_succ]))
    (refine mix_loud (by rfl) (by rfl) (fun K E hK => ?_); go_big_op)
    refine (refPut_to f.win _).mono ?_; rintro e w3 ⟨rfl, hd⟩
    obtain ⟨x1, rfl⟩ := more_ext x hd
    refine hK _ _ ⟨_, rfl⟩ ?_; clear hK K E hd
    repeat (first | (refine mix_quiet (by rfl) (by rfl) (fun K hK => ?_); go_big_quiet_op; refine hK _ ?_; clear hK K) | (refine mix_skip (by rfl) ?_; simp only [Act.put, List.setIfInBounds_toArray, List.set_cons_zero, List.set_cons_succ]))
    (refine mix_loud (by rfl) (by rfl) (fun K E hK => ?_); go_big_op)
    refine (refPut_to f.cnt _).mono ?_; rintro e w3 ⟨rfl, hd⟩
    obtain ⟨x2, rfl⟩ := more_ext x1 hd
    refine hK _ _ ⟨_, rfl⟩ ?_; clear hK K E hd
    iterate 2 (first | (refine mix_quiet (by rfl) (by rfl) (fun K hK => ?_); go_big_quiet_op; refine hK _ ?_; clear hK K) | (refine mix_skip (by rfl) ?_; simp only [Act.put, List.setIfInBounds_toArray, List.set_cons_zero, List.set_cons_succ]))
    refine mix_mid (by rfl) (by rfl) 28 (.tmp 32) rfl w.heap.size 2 (by rfl) (hcells f.root) _ hroot hlt Tryz.underlying28 rfl (size32l _ hf) ?_
    simp only [Act.put, List.setIfInBounds_toArray, List.set_cons_zero, List.set_cons_succ]
    (refine mix_loud (by rfl) (by rfl) (fun K E hK => ?_); go_big_op)
    refine (refSSum_calls f.root hf _).mono ?_; rintro e w3 ⟨rfl, hd⟩
    obtain ⟨x3, rfl⟩ := more_ext x2 hd
    refine hK _ _ ⟨_, rfl⟩ ?_; clear hK K E hd
    repeat (first | (refine mix_quiet (by rfl) (by rfl) (fun K hK => ?_); go_big_quiet_op; refine hK _ ?_; clear hK K) | (refine mix_skip (by rfl) ?_; simp only [Act.put, List.setIfInBounds_toArray, List.set_cons_zero, List.set_cons_succ]))
    refine mix_nil ?_
    go_wp2_with fail
    go_ret2
    exact ⟨rfl, hE0.trans (grow_ext _)⟩
  · obtain ⟨ho, he⟩ := Seal.Fz.out_no f hm
    rw [ho, he]
    unfold Seal.Fz.may at hm
    clear ho he
    rcases (show f.win < 0 ∨ (0 ≤ f.win ∧ 1125899906842624 < f.win) ∨ (0 ≤ f.win ∧ f.win ≤ 1125899906842624 ∧ f.cnt < 1) ∨ (0 ≤ f.win ∧ f.win ≤ 1125899906842624 ∧ 1 ≤ f.cnt ∧ 4000 < f.cnt) by omega) with h1 | ⟨h1, h2⟩ | ⟨h1, h2, h3⟩ | ⟨h1, h2, h3, h4⟩
    all_goals
      clear hm
      unfold Seal.Fz.v
      go_enter Tryz.func20, Tryz.ntmps20
      go_wp2_with fail
      go_ret2
      exact ⟨rfl, hE0⟩

theorem refFreezeLeaf_calls (f : Fz) (hf : f.root.length = 32) (w : World) : Calls Tryz.prog 52 #[f.v] w fun e w' => e = .returned (sumV (leafB f.outB)) ∧ Ext w w' := by
  have hB0 : FzAt ((w.alloc (.cells f.cells.toArray 30)).alloc (.cells ((zerosB 32).map byteV).toArray 28)) w.heap.size f := by
    have := Blk.new w 30 f.cells.toArray
    exact Blk.alloc (this) _
  have hB1 : ArrB ((w.alloc (.cells f.cells.toArray 30)).alloc (.cells ((zerosB 32).map byteV).toArray 28)) (w.heap.size + 1) 28 (zerosB 32) := by
    have := Blk.new (w.alloc (.cells f.cells.toArray 30)) 28 ((zerosB 32).map byteV).toArray
    rw [alloc_size] at this
    exact this
  have hE0 : Ext w ((w.alloc (.cells f.cells.toArray 30)).alloc (.cells ((zerosB 32).map byteV).toArray 28)) := ((Ext.refl w).alloc _).alloc _
  have hol : f.outB.length ≤ 70 := by
    unfold Seal.Fz.outB
    split
    · exact Seal.Fz.bytes_length f hf
    · simp
  obtain ⟨d, hd⟩ : ∃ d, d = f.outB := ⟨_, rfl⟩
  rw [← hd] at hol ⊢
  have Hd := Lib.hid hd; clear hd
  obtain ⟨z, hz⟩ : ∃ z, z = leafB d := ⟨_, rfl⟩
  rw [← hz]
  have Hz := Lib.hid hz; clear hz
  unfold Seal.Fz.v
  go_enter Tryz.func52, Tryz.ntmps52
  go_wp2_with (refine stop_load 30 (.tmp 1) rfl ?_)
  refine ⟨?_⟩
  change wpList _ _ _ _ _ ((w.alloc (.cells f.cells.toArray 30)).alloc (.cells ((zerosB 32).map byteV).toArray 28))
  generalize ((w.alloc (.cells f.cells.toArray 30)).alloc (.cells ((zerosB 32).map byteV).toArray 28)) = w0 at *
  refine wpList_load_row rfl 30 (.tmp 1) rfl w.heap.size (by rfl) 30 _ (0, 0) _ hB0 Tryz.underlying30 rfl (Seal.size_fz f hf) ?_
  simp only [Act.put, List.setIfInBounds_toArray, List.set_cons_zero, List.set_cons_succ]
  go_wp2_with fail
  change Calls _ _ #[f.v] _ _
  refine (refFreezeBytes_calls f hf _).mono ?_; rw [← Hd.out]; rintro e w1 ⟨rfl, e1⟩
  generalize f.outE = q at *
  have hE1 := hE0.trans e1
  have hR1 := Blk.below hB1 e1 hB1.lt
  go_wp2_with fail
  refine (refLeaf_calls d (by omega) _).mono ?_; rw [← Hz.out]; rintro e w2 ⟨rfl, e2⟩
  have hR2 := Blk.below hR1 e2 (Blk.lt hR1)
  have hE2 := hE1.trans e2
  have hml : (z.map byteV).toArray.size = 32 := by rw [Hz.out]; simp [leafB_length]
  clear Hz
  unfold sumV
  go_wp2_with (refine stop_store 28 (.tmp 2) (.tmp 11) rfl ?_)
  refine ⟨?_⟩
  refine wpList_store_row rfl 28 (.tmp 2) (.tmp 11) rfl (w.heap.size + 1) _ (by rfl) (by rfl) 28 _ hR2 (size32.trans (by rw [hml])) (by rw [hml]; simp [zerosB]) (by simp [byteV, Value.oneCell']) ?_
  simp only [Act.put, List.setIfInBounds_toArray, List.set_cons_zero, List.set_cons_succ]
  go_wp2_with fail
  (try simp only [Exit.inBlock, Exit.then])
  exact bodyPost_ret (results_cell_row rfl _ _ (w.heap.size + 1) 28 _ (0, 0) _ rfl (Blk.row hR2 _) Tryz.underlying28 rfl (size32.trans (by rw [hml]))) rfl ⟨rfl, hE2.row (by omega) _⟩

set_option maxHeartbeats 1000000 in
theorem refHeadSays_calls (f : Hd) (hf : f.root.length = 32) (hg : f.mac.length = 32) (w : World) : Calls Tryz.prog 30 #[f.v] w fun e w' => e = .returned (.tuple #[.string (bs f.saysB), .bool (decide f.may)]) ∧ Ext w w' := by
  have hB0 : HdAt (w.alloc (.cells f.cells.toArray 32)) w.heap.size f := by
    have := Blk.new w 32 f.cells.toArray
    exact this
  have hE0 : Ext w (w.alloc (.cells f.cells.toArray 32)) := (Ext.refl w).alloc _
  have c0 := hB0.c0
  have c1 := hB0.c33 hf
  by_cases hm : f.may
  · skip
    obtain ⟨ho, -, -⟩ := Seal.Hd.out_ok f hm
    rw [ho, decide_eq_true hm]
    obtain ⟨m1, m2, m3, m4⟩ := hm
    have hw1 := u64_wrapS f.size
    have hw2 := u64_wrapS f.clock
    have l1 := Seal.put_le (Seal.u64 f.size)
    have l2 := Seal.put_le (Seal.u64 f.clock)
    have l3 := Seal.text_le f.root
    have hj : Seal.Hd.says f = (([72] ++ Oct.put (Seal.u64 f.size)) ++ Oct.text f.root) ++ Oct.put (Seal.u64 f.clock) := by unfold Seal.Hd.says; simp
    rw [hj]
    clear ho hj
    unfold Seal.Hd.v
    go_enter Tryz.func30, Tryz.ntmps30
    go_wp2_with fail
    have hlt : w.heap.size < (w.alloc (.cells f.cells.toArray 32)).heap.size := Blk.lt hB0
    change (Code.region _ _ _).wp _ _ _ (w.alloc (.cells f.cells.toArray 32))
    generalize (w.alloc (.cells f.cells.toArray 32)) = w0 at *
    have hroot := hB0.root
    have a1 : ¬ (9223372036854775807 < (1 : Nat) + (Oct.put (Seal.u64 f.size)).length) := by omega
    have a2 : ¬ (9223372036854775807 < ([72] ++ Oct.put (Seal.u64 f.size)).length + (Oct.text f.root).length) := by simp; omega
    have a3 : ¬ (9223372036854775807 < (Oct.put (Seal.u64 f.size)).length + 1 + (Oct.text f.root).length) := by omega
    have a4 : ¬ (9223372036854775807 < (([72] ++ Oct.put (Seal.u64 f.size)) ++ Oct.text f.root).length + (Oct.put (Seal.u64 f.clock)).length) := by simp; omega
    have a5 : ¬ (9223372036854775807 < (Oct.put (Seal.u64 f.size)).length + 1 + (Oct.text f.root).length + (Oct.put (Seal.u64 f.clock)).length) := by omega
    have a6 : ¬ (9223372036854775807 < (Oct.put (Seal.u64 f.size)).length + ((Oct.text f.root).length + 1) + (Oct.put (Seal.u64 f.clock)).length) := by omega
    have a7 : ¬ (9223372036854775807 < (Oct.put (Seal.u64 f.size)).length + (Oct.text f.root).length + 1 + (Oct.put (Seal.u64 f.clock)).length) := by omega
    refine region_mix0 (by kernel_rfl) (by kernel_rfl) (fun x => ?_)
    repeat (first | (refine mix_quiet (by rfl) (by rfl) (fun K hK => ?_); go_big_quiet_op; refine hK _ ?_; clear hK K) | (refine mix_skip (by rfl) ?_; simp only [Act.put, List.setIfInBounds_toArray, List.set_cons_zero, List.set_cons_succ]))
    (refine mix_loud (by rfl) (by rfl) (fun K E hK => ?_); go_big_op)
    refine (refPut_to f.size _).mono ?_; rintro e w3 ⟨rfl, hd⟩
    obtain ⟨x1, rfl⟩ := more_ext x hd
    refine hK _ _ ⟨_, rfl⟩ ?_; clear hK K E hd
    iterate 2 (first | (refine mix_quiet (by rfl) (by rfl) (fun K hK => ?_); go_big_quiet_op; refine hK _ ?_; clear hK K) | (refine mix_skip (by rfl) ?_; simp only [Act.put, List.setIfInBounds_toArray, List.set_cons_zero, List.set_cons_succ]))
    refine mix_mid (by rfl) (by rfl) 28 (.tmp 27) rfl w.heap.size 1 (by rfl) (hcells f.root) _ hroot hlt Tryz.underlying28 rfl (size32l _ hf) ?_
    simp only [Act.put, List.setIfInBounds_toArray, List.set_cons_zero, List.set_cons_succ]
    (refine mix_loud (by rfl) (by rfl) (fun K E hK => ?_); go_big_op)
    refine (refSSum_calls f.root hf _).mono ?_; rintro e w3 ⟨rfl, hd⟩
    obtain ⟨x2, rfl⟩ := more_ext x1 hd
    refine hK _ _ ⟨_, rfl⟩ ?_; clear hK K E hd
    repeat (first | (refine mix_quiet (by rfl) (by rfl) (fun K hK => ?_); go_big_quiet_op; refine hK _ ?_; clear hK K) | (refine mix_skip (by rfl) ?_; simp only [Act.put, List.setIfInBounds_toArray, List.set_cons_zero, List.set_cons_succ]))
    (refine mix_loud (by rfl) (by rfl) (fun K E hK => ?_); go_big_op)
    refine (refPut_to f.clock _).mono ?_; rintro e w3 ⟨rfl, hd⟩
    obtain ⟨x3, rfl⟩ := more_ext x2 hd
    refine hK _ _ ⟨_, rfl⟩ ?_; clear hK K E hd
    repeat (first | (refine mix_quiet (by rfl) (by rfl) (fun K hK => ?_); go_big_quiet_op; refine hK _ ?_; clear hK K) | (refine mix_skip (by rfl) ?_; simp only [Act.put, List.setIfInBounds_toArray, List.set_cons_zero, List.set_cons_succ]))
    refine mix_nil ?_
    go_wp2_with fail
    go_ret2
    exact ⟨rfl, hE0.trans (grow_ext _)⟩
  · obtain ⟨ho, -, -⟩ := Seal.Hd.out_no f hm
    rw [ho, decide_eq_false hm]
    unfold Seal.Hd.may at hm
    clear ho
    rcases (show f.size < 0 ∨ (0 ≤ f.size ∧ 1099511627776 < f.size) ∨ (0 ≤ f.size ∧ f.size ≤ 1099511627776 ∧ f.clock < 0) ∨ (0 ≤ f.size ∧ f.size ≤ 1099511627776 ∧ 0 ≤ f.clock ∧ 1125899906842624 < f.clock) by omega) with h1 | ⟨h1, h2⟩ | ⟨h1, h2, h3⟩ | ⟨h1, h2, h3, h4⟩
    all_goals
      clear hm
      unfold Seal.Hd.v
      go_enter Tryz.func30, Tryz.ntmps30
      go_wp2_with fail
      go_ret2
      exact ⟨rfl, hE0⟩

theorem refText_to (s : List UInt8) (w : World) (hs : s.length ≤ 140737488355328) : Calls Tryz.prog 58 #[.string (bs s)] w fun e w' => e = .returned (.string (bs (Oct.text s))) ∧ Ext w w' := refText_calls s w hs
set_option maxHeartbeats 1000000 in
theorem refHeadRight_calls (key : List UInt8) (hk : key.length ≤ 4611686018427387904) (f : Hd) (hf : f.root.length = 32) (hg : f.mac.length = 32) (w : World) : Calls Tryz.prog 11 #[.string (bs key), f.v] w fun e w' => e = .returned (.bool (f.rightB key)) ∧ Ext w w' := by
  have hB0 : HdAt (w.alloc (.cells f.cells.toArray 32)) w.heap.size f := by
    have := Blk.new w 32 f.cells.toArray
    exact this
  have hE0 : Ext w (w.alloc (.cells f.cells.toArray 32)) := (Ext.refl w).alloc _
  obtain ⟨r, hr⟩ : ∃ r, r = f.rightB key := ⟨_, rfl⟩
  rw [← hr]
  by_cases hm : f.may
  · obtain ⟨hs, ho, he⟩ := Seal.Hd.out_ok f hm
    have hb : decide f.may = true := decide_eq_true hm
    obtain ⟨z, hz⟩ : ∃ z, z = macOf key f.says := ⟨_, rfl⟩
    have hz32 : z.length = 32 := by rw [hz]; exact macOf_length _ _
    have hr2 : decide (f.mac = z) = r := by
      rw [hr, hz]
      unfold Seal.Hd.rightB
      rw [Bool.eq_iff_iff, decide_eq_true_eq, decide_eq_true_eq]
      exact ⟨fun h => ⟨hm, h⟩, fun h => h.2⟩
    have heq := fun w : World => eq_sum f.mac z hg hz32 w
    rw [hr2] at heq
    have hgw := guard_sum
    have hsl := Seal.Hd.says_length f hf
    have Hz := Lib.hid hz; clear hr hr2 hm hz
    unfold Seal.Hd.v
    go_enter Tryz.func11, Tryz.ntmps11
    go_wp2_with (refine stop_load 32 (.tmp 3) rfl ?_)
    refine ⟨?_⟩
    change wpList _ _ _ _ _ (w.alloc (.cells f.cells.toArray 32))
    generalize (w.alloc (.cells f.cells.toArray 32)) = w0 at *
    refine wpList_load_row rfl 32 (.tmp 3) rfl w.heap.size (by rfl) 32 _ (0, 0) _ hB0 Tryz.underlying32 rfl (Seal.size_hd f hf hg) ?_
    simp only [Act.put, List.setIfInBounds_toArray, List.set_cons_zero, List.set_cons_succ]
    go_wp2_with fail
    change Calls _ _ #[f.v] _ _
    refine (refHeadSays_calls f hf hg _).mono ?_; rw [hs, hb]; rintro e w1 ⟨rfl, e1⟩
    have hB1 := HdAt.ext hB0 e1
    have hE1 := hE0.trans e1
    clear hB0 hE0 e1 hs ho he
    have hmac := HdAt.mac hB1 hf
    have hlt := Blk.lt hB1
    go_wp2_with fail
    refine region_mix0 (by kernel_rfl) (by kernel_rfl) (fun x => ?_)
    iterate 3 (first | (refine mix_quiet (by rfl) (by rfl) (fun K hK => ?_); go_big_quiet_op; refine hK _ ?_; clear hK K) | (refine mix_skip (by rfl) ?_; simp only [Act.put, List.setIfInBounds_toArray, List.set_cons_zero, List.set_cons_succ]))
    refine mix_mid (by rfl) (by rfl) 28 (.tmp 14) rfl w.heap.size 34 (by rfl) (hcells f.mac) _ hmac hlt Tryz.underlying28 rfl (size32l _ hg) ?_
    simp only [Act.put, List.setIfInBounds_toArray, List.set_cons_zero, List.set_cons_succ]
    unfold hcells
    repeat (first | (refine mix_quiet (by rfl) (by rfl) (fun K hK => ?_); go_big_quiet_op; refine hK _ ?_; clear hK K) | (refine mix_skip (by rfl) ?_; simp only [Act.put, List.setIfInBounds_toArray, List.set_cons_zero, List.set_cons_succ]))
    (refine mix_loud (by rfl) (by rfl) (fun K E hK => ?_); go_big_op)
    refine (refMac_calls key f.says hk (by omega) _).mono ?_; rw [← Hz.out]; rintro e w3 ⟨rfl, hd⟩
    obtain ⟨x1, rfl⟩ := more_ext x hd
    refine hK _ _ ⟨_, rfl⟩ ?_; clear hK K E hd
    unfold sumV
    repeat (first | (refine mix_quiet (by rfl) (by rfl) (fun K hK => ?_); go_big_quiet_op; refine hK _ ?_; clear hK K) | (refine mix_skip (by rfl) ?_; simp only [Act.put, List.setIfInBounds_toArray, List.set_cons_zero, List.set_cons_succ]))
    refine mix_nil ?_
    go_wp2_with fail
    go_ret
    exact ⟨rfl, hE1.trans (grow_ext _)⟩
  · obtain ⟨hs, ho, he⟩ := Seal.Hd.out_no f hm
    have hb : decide f.may = false := decide_eq_false hm
    have hr2 : r = false := by
      rw [hr]
      unfold Seal.Hd.rightB
      rw [decide_eq_false_iff_not]
      exact fun h => hm h.1
    subst hr2
    clear hm hr
    unfold Seal.Hd.v
    go_enter Tryz.func11, Tryz.ntmps11
    go_wp2_with (refine stop_load 32 (.tmp 3) rfl ?_)
    refine ⟨?_⟩
    change wpList _ _ _ _ _ (w.alloc (.cells f.cells.toArray 32))
    generalize (w.alloc (.cells f.cells.toArray 32)) = w0 at *
    refine wpList_load_row rfl 32 (.tmp 3) rfl w.heap.size (by rfl) 32 _ (0, 0) _ hB0 Tryz.underlying32 rfl (Seal.size_hd f hf hg) ?_
    simp only [Act.put, List.setIfInBounds_toArray, List.set_cons_zero, List.set_cons_succ]
    go_wp2_with fail
    change Calls _ _ #[f.v] _ _
    refine (refHeadSays_calls f hf hg _).mono ?_; rw [hs, hb]; rintro e w1 ⟨rfl, e1⟩
    have hB1 := HdAt.ext hB0 e1
    have hE1 := hE0.trans e1
    clear hB0 hE0 e1 hs ho he
    go_wp2_with fail
    refine region_mix0 (by kernel_rfl) (by kernel_rfl) (fun x => ?_)
    repeat (first | (refine mix_quiet (by rfl) (by rfl) (fun K hK => ?_); go_big_quiet_op; refine hK _ ?_; clear hK K) | (refine mix_skip (by rfl) ?_; simp only [Act.put, List.setIfInBounds_toArray, List.set_cons_zero, List.set_cons_succ]))
    refine mix_nil ?_
    go_wp2_with fail
    go_ret
    exact ⟨rfl, hE1.trans (grow_ext _)⟩

set_option maxHeartbeats 2000000 in
theorem refHead_calls (key : List UInt8) (hk : key.length ≤ 4611686018427387904) (size clock : Int) (r : List UInt8) (hr : r.length = 32) (w : World) : Calls Tryz.prog 63 #[.string (bs key), .int .i64 size, sumV r, .int .i64 clock] w fun e w' => e = .returned (Seal.Hd.sign key size r clock).v ∧ Ext w w' := by
  have hB0 : ArrB ((w.alloc (.cells (r.map byteV).toArray 28)).alloc (.cells (⟨0, List.replicate 32 0, 0, List.replicate 32 0⟩ : Hd).cells.toArray 32)) w.heap.size 28 r := by
    have := Blk.new w 28 (r.map byteV).toArray
    exact Blk.alloc (this) _
  have hB1 : HdAt ((w.alloc (.cells (r.map byteV).toArray 28)).alloc (.cells (⟨0, List.replicate 32 0, 0, List.replicate 32 0⟩ : Hd).cells.toArray 32)) (w.heap.size + 1) (⟨0, List.replicate 32 0, 0, List.replicate 32 0⟩ : Hd) := by
    have := Blk.new (w.alloc (.cells (r.map byteV).toArray 28)) 32 (⟨0, List.replicate 32 0, 0, List.replicate 32 0⟩ : Hd).cells.toArray
    rw [alloc_size] at this
    exact this
  have hE0 : Ext w ((w.alloc (.cells (r.map byteV).toArray 28)).alloc (.cells (⟨0, List.replicate 32 0, 0, List.replicate 32 0⟩ : Hd).cells.toArray 32)) := ((Ext.refl w).alloc _).alloc _
  obtain ⟨h, hh⟩ : ∃ h : Hd, h = (⟨size, r, clock, List.replicate 32 0⟩ : Hd) := ⟨_, rfl⟩
  have h1 : h.root.length = 32 := by rw [hh]; exact hr
  have h2 : h.mac.length = 32 := by rw [hh]; simp
  have hbu := built_hd3 size r hr clock
  rw [← hh] at hbu
  have hcc : h.cells = ([Value.int .i64 size] ++ (hcells r ++ [Value.int .i64 clock])) ++ (hcells (List.replicate 32 0) ++ []) := by rw [hh]; simp [Seal.Hd.cells]
  have hsl := Seal.Hd.saysB_length h h1
  have hoc := Seal.Hd.outE_cases h
  have Hcc := Lib.hid hcc; clear hcc
  by_cases hm : h.may
  · obtain ⟨hsb, -, hoe⟩ := Seal.Hd.out_ok h hm
    obtain ⟨z, hz⟩ : ∃ z, z = macOf key h.saysB := ⟨_, rfl⟩
    have hz32 : z.length = 32 := by rw [hz]; exact macOf_length _ _
    have hs : Seal.Hd.sign key size r clock = (⟨size, r, clock, z⟩ : Hd) := by
      rw [hz]
      unfold Seal.Hd.sign Seal.signB
      rw [← hh, if_pos hoe]
    have hcz : (⟨size, r, clock, z⟩ : Hd).cells = ([Value.int .i64 size] ++ (hcells r ++ [Value.int .i64 clock])) ++ (hcells z ++ []) := by simp [Seal.Hd.cells]
    have h1' := hr; have h2' := hz32
    have hsz := Seal.size_hd (⟨size, r, clock, z⟩ : Hd) h1' h2'
    have hcl := Seal.Hd.cells_length (⟨size, r, clock, z⟩ : Hd) h1' h2'
    have hone := all_oneCell_toArray (Seal.Hd.one (⟨size, r, clock, z⟩ : Hd))
    rw [hs]
    have hbt : decide h.may = true := decide_eq_true hm
    have Hz := Lib.hid hz; have Hcz := Lib.hid hcz; have Hcl := Lib.hid hcl
    clear hh hz hs hcz hcl hsb hoe hm
    unfold sumV Seal.Hd.v
    go_enter Tryz.func63, Tryz.ntmps63
    go_wp2_with (refine stop_load 28 (.tmp 6) rfl ?_)
    refine ⟨?_⟩
    change wpList _ _ _ _ _ ((w.alloc (.cells (r.map byteV).toArray 28)).alloc (.cells (⟨0, List.replicate 32 0, 0, List.replicate 32 0⟩ : Hd).cells.toArray 32))
    generalize ((w.alloc (.cells (r.map byteV).toArray 28)).alloc (.cells (⟨0, List.replicate 32 0, 0, List.replicate 32 0⟩ : Hd).cells.toArray 32)) = w0 at *
    refine wpList_load_row rfl 28 (.tmp 6) rfl w.heap.size (by rfl) 28 _ (0, 0) _ hB0 Tryz.underlying28 rfl (size32.trans (by simp [hr])) ?_
    simp only [Act.put, List.setIfInBounds_toArray, List.set_cons_zero, List.set_cons_succ]
    go_wp2_with (refine stop_at 15 rfl ?_)
    refine ⟨?_⟩
    refine wpList_build_to rfl 32 _ rfl _ (by rw [Array.toList_map]; rfl) _ hbu ?_
    simp only [Act.put, List.setIfInBounds_toArray, List.set_cons_zero, List.set_cons_succ]
    go_wp2_with (refine stop_store 32 (.tmp 9) (.tmp 15) rfl ?_)
    refine ⟨?_⟩
    have hN0 := Blk.new w0 32 (⟨0, List.replicate 32 0, 0, List.replicate 32 0⟩ : Hd).cells.toArray
    have hR0 := HdAt.ext hB1 ((Ext.refl w0).alloc (.cells (⟨0, List.replicate 32 0, 0, List.replicate 32 0⟩ : Hd).cells.toArray 32))
    have hE1 := hE0.alloc (.cells (⟨0, List.replicate 32 0, 0, List.replicate 32 0⟩ : Hd).cells.toArray 32)
    have hgl : w.heap.size + 1 < w0.heap.size := Blk.lt hB1
    change wpList _ _ _ _ _ (w0.alloc (.cells (⟨0, List.replicate 32 0, 0, List.replicate 32 0⟩ : Hd).cells.toArray 32))
    generalize w0.alloc (.cells (⟨0, List.replicate 32 0, 0, List.replicate 32 0⟩ : Hd).cells.toArray 32) = w1 at *
    generalize w0.heap.size = gh at *
    refine wpList_store_row rfl 32 (.tmp 9) (.tmp 15) rfl gh _ (by rfl) (by rfl) 32 _ hN0 (Seal.size_hd h h1 h2) (by simp only [List.size_toArray]; rw [Seal.Hd.cells_length h h1 h2]; rfl) (all_oneCell_toArray h.one) ?_
    simp only [Act.put, List.setIfInBounds_toArray, List.set_cons_zero, List.set_cons_succ]
    have hN : HdAt (w1.setRow gh h.cells.toArray) gh h := Blk.row hN0 _
    have hR1 : HdAt (w1.setRow gh h.cells.toArray) (w.heap.size + 1) (⟨0, List.replicate 32 0, 0, List.replicate 32 0⟩ : Hd) := Blk.rowFar hR0 (by omega) _
    have hE2 : Ext w (w1.setRow gh h.cells.toArray) := hE1.row (by omega) _
    clear hN0 hR0 hE1 hB0 hB1 hE0
    generalize w1.setRow gh h.cells.toArray = w2 at *
    clear w0 w1
    go_wp2_with (refine stop_load 32 (.tmp 9) rfl ?_)
    refine ⟨?_⟩
    refine wpList_load_row rfl 32 (.tmp 9) rfl gh (by rfl) 32 _ (0, 0) _ hN Tryz.underlying32 rfl (Seal.size_hd h h1 h2) ?_
    simp only [Act.put, List.setIfInBounds_toArray, List.set_cons_zero, List.set_cons_succ]
    go_wp2_with fail
    change Calls _ _ #[h.v] _ _
    refine (refHeadSays_calls h h1 h2 _).mono ?_; rw [hbt]; rintro e w3 ⟨rfl, e3⟩
    replace hN := hN.ext e3
    replace hR1 := hR1.ext e3
    replace hE2 := hE2.trans e3
    clear e3
    go_wp2_with fail
    refine (refMac_calls key h.saysB hk (by omega) _).mono ?_; rw [← Hz.out]; rintro e w4 ⟨rfl, e4⟩
    replace hN := hN.ext e4
    replace hR1 := hR1.ext e4
    replace hE2 := hE2.trans e4
    clear e4
    have hth : w4.there gh 34 (z.map byteV).toArray.size := Blk.there hN 34 _ (by rw [Seal.Hd.cells_length h h1 h2]; simp [hz32])
    unfold sumV
    go_wp2_with (refine stop_store 28 (.tmp 25) (.tmp 24) rfl ?_)
    refine ⟨?_⟩
    refine wpList_store_mid rfl 28 (.tmp 25) (.tmp 24) rfl gh 34 _ (by rfl) (by rfl) hth (size32.trans (by simp [hz32])) (by simp [byteV, Value.oneCell']) ?_
    simp only [Act.put, List.setIfInBounds_toArray, List.set_cons_zero, List.set_cons_succ]
    have hM : HdAt (w4.setCells gh 34 (z.map byteV).toArray.toList) gh (⟨size, r, clock, z⟩ : Hd) := by
      have := hN
      unfold HdAt at this
      rw [Hcc.out] at this
      unfold HdAt
      rw [Hcz.out]
      exact Blk.mid this _ 34 (by simp [hcells_length, hr]) (by simp [hcells_length, hz32])
    have hR2 : HdAt (w4.setCells gh 34 (z.map byteV).toArray.toList) (w.heap.size + 1) (⟨0, List.replicate 32 0, 0, List.replicate 32 0⟩ : Hd) := Blk.farCells (by omega) _ _ _ hR1
    have hE4 : Ext w (w4.setCells gh 34 (z.map byteV).toArray.toList) := ext_setCells (by omega) _ _ _ hE2
    clear hN hR1 hE2 hth
    generalize w4.setCells gh 34 (z.map byteV).toArray.toList = w5 at *
    have hcl := Hcl.out
    go_wp2_with (refine stop_load 32 (.tmp 9) rfl ?_)
    refine ⟨?_⟩
    refine wpList_load_row rfl 32 (.tmp 9) rfl gh (by rfl) 32 _ (0, 0) _ hM Tryz.underlying32 rfl (hsz) ?_
    simp only [Act.put, List.setIfInBounds_toArray, List.set_cons_zero, List.set_cons_succ]
    go_wp2_with (refine stop_store 32 (.tmp 8) (.tmp 26) rfl ?_)
    refine ⟨?_⟩
    refine wpList_store_row rfl 32 (.tmp 8) (.tmp 26) rfl (w.heap.size + 1) _ (by rfl) (by rfl) 32 _ hR2 hsz (by simp only [List.size_toArray]; rw [hcl]; rfl) hone ?_
    simp only [Act.put, List.setIfInBounds_toArray, List.set_cons_zero, List.set_cons_succ]
    go_wp2_with fail
    (try simp only [Exit.inBlock, Exit.then])
    exact bodyPost_ret (results_cell_row rfl _ _ (w.heap.size + 1) 32 _ (0, 0) _ rfl (Blk.row hR2 _) Tryz.underlying32 rfl hsz) rfl ⟨rfl, hE4.row (by omega) _⟩
  · obtain ⟨hsb, -, hoe⟩ := Seal.Hd.out_no h hm
    have hs : Seal.Hd.sign key size r clock = h := by
      unfold Seal.Hd.sign Seal.signB
      rw [← hh, if_neg (by rw [hoe]; decide), hh]
    have h1' := h1; have h2' := h2
    have hsz := Seal.size_hd h h1' h2'
    have hcl := Seal.Hd.cells_length h h1' h2'
    have hone := all_oneCell_toArray (Seal.Hd.one h)
    rw [hs]
    have hbt : decide h.may = false := decide_eq_false hm
    have Hcl := Lib.hid hcl
    clear hh hs hcl hsb hoe hm
    unfold sumV Seal.Hd.v
    go_enter Tryz.func63, Tryz.ntmps63
    go_wp2_with (refine stop_load 28 (.tmp 6) rfl ?_)
    refine ⟨?_⟩
    change wpList _ _ _ _ _ ((w.alloc (.cells (r.map byteV).toArray 28)).alloc (.cells (⟨0, List.replicate 32 0, 0, List.replicate 32 0⟩ : Hd).cells.toArray 32))
    generalize ((w.alloc (.cells (r.map byteV).toArray 28)).alloc (.cells (⟨0, List.replicate 32 0, 0, List.replicate 32 0⟩ : Hd).cells.toArray 32)) = w0 at *
    refine wpList_load_row rfl 28 (.tmp 6) rfl w.heap.size (by rfl) 28 _ (0, 0) _ hB0 Tryz.underlying28 rfl (size32.trans (by simp [hr])) ?_
    simp only [Act.put, List.setIfInBounds_toArray, List.set_cons_zero, List.set_cons_succ]
    go_wp2_with (refine stop_at 15 rfl ?_)
    refine ⟨?_⟩
    refine wpList_build_to rfl 32 _ rfl _ (by rw [Array.toList_map]; rfl) _ hbu ?_
    simp only [Act.put, List.setIfInBounds_toArray, List.set_cons_zero, List.set_cons_succ]
    go_wp2_with (refine stop_store 32 (.tmp 9) (.tmp 15) rfl ?_)
    refine ⟨?_⟩
    have hN0 := Blk.new w0 32 (⟨0, List.replicate 32 0, 0, List.replicate 32 0⟩ : Hd).cells.toArray
    have hR0 := HdAt.ext hB1 ((Ext.refl w0).alloc (.cells (⟨0, List.replicate 32 0, 0, List.replicate 32 0⟩ : Hd).cells.toArray 32))
    have hE1 := hE0.alloc (.cells (⟨0, List.replicate 32 0, 0, List.replicate 32 0⟩ : Hd).cells.toArray 32)
    have hgl : w.heap.size + 1 < w0.heap.size := Blk.lt hB1
    change wpList _ _ _ _ _ (w0.alloc (.cells (⟨0, List.replicate 32 0, 0, List.replicate 32 0⟩ : Hd).cells.toArray 32))
    generalize w0.alloc (.cells (⟨0, List.replicate 32 0, 0, List.replicate 32 0⟩ : Hd).cells.toArray 32) = w1 at *
    generalize w0.heap.size = gh at *
    refine wpList_store_row rfl 32 (.tmp 9) (.tmp 15) rfl gh _ (by rfl) (by rfl) 32 _ hN0 (Seal.size_hd h h1 h2) (by simp only [List.size_toArray]; rw [Seal.Hd.cells_length h h1 h2]; rfl) (all_oneCell_toArray h.one) ?_
    simp only [Act.put, List.setIfInBounds_toArray, List.set_cons_zero, List.set_cons_succ]
    have hN : HdAt (w1.setRow gh h.cells.toArray) gh h := Blk.row hN0 _
    have hR1 : HdAt (w1.setRow gh h.cells.toArray) (w.heap.size + 1) (⟨0, List.replicate 32 0, 0, List.replicate 32 0⟩ : Hd) := Blk.rowFar hR0 (by omega) _
    have hE2 : Ext w (w1.setRow gh h.cells.toArray) := hE1.row (by omega) _
    clear hN0 hR0 hE1 hB0 hB1 hE0
    generalize w1.setRow gh h.cells.toArray = w2 at *
    clear w0 w1
    go_wp2_with (refine stop_load 32 (.tmp 9) rfl ?_)
    refine ⟨?_⟩
    refine wpList_load_row rfl 32 (.tmp 9) rfl gh (by rfl) 32 _ (0, 0) _ hN Tryz.underlying32 rfl (Seal.size_hd h h1 h2) ?_
    simp only [Act.put, List.setIfInBounds_toArray, List.set_cons_zero, List.set_cons_succ]
    go_wp2_with fail
    change Calls _ _ #[h.v] _ _
    refine (refHeadSays_calls h h1 h2 _).mono ?_; rw [hbt]; rintro e w3 ⟨rfl, e3⟩
    replace hN := hN.ext e3
    replace hR1 := hR1.ext e3
    replace hE2 := hE2.trans e3
    clear e3
    have hcl := Hcl.out
    go_wp2_with (refine stop_load 32 (.tmp 9) rfl ?_)
    refine ⟨?_⟩
    refine wpList_load_row rfl 32 (.tmp 9) rfl gh (by rfl) 32 _ (0, 0) _ hN Tryz.underlying32 rfl (hsz) ?_
    simp only [Act.put, List.setIfInBounds_toArray, List.set_cons_zero, List.set_cons_succ]
    go_wp2_with (refine stop_store 32 (.tmp 8) (.tmp 26) rfl ?_)
    refine ⟨?_⟩
    refine wpList_store_row rfl 32 (.tmp 8) (.tmp 26) rfl (w.heap.size + 1) _ (by rfl) (by rfl) 32 _ hR1 hsz (by simp only [List.size_toArray]; rw [hcl]; rfl) hone ?_
    simp only [Act.put, List.setIfInBounds_toArray, List.set_cons_zero, List.set_cons_succ]
    go_wp2_with fail
    (try simp only [Exit.inBlock, Exit.then])
    exact bodyPost_ret (results_cell_row rfl _ _ (w.heap.size + 1) 32 _ (0, 0) _ rfl (Blk.row hR1 _) Tryz.underlying32 rfl hsz) rfl ⟨rfl, hE2.row (by omega) _⟩

end Go.Proofs.YtcgnjdkennkheaaGreatDoor

namespace Go.Proofs.YtcgnjdkennkheaaGreatDoor
open Go.RowKit
open Seal (Fz Hd St)
attribute [local go_sem] bs_size bs_toList2 bs_append bs_extract_end bs_extract_begin bs_get wrap64_b grow_cell grow_frozen

theorem HdAt.clock {w : World} {g : Nat} {f : Hd} (h : HdAt w g f) (hr : f.root.length = 32) (c : Int) : HdAt (w.setCell ⟨g, 33, none⟩ (.int .i64 c)) g ⟨f.size, f.root, c, f.mac⟩ := by
  have h' := h
  unfold HdAt Seal.Hd.cells at h'
  rw [app3] at h'
  have := Blk.mid h' [.int .i64 c] 33 (by simp [hcells_length, hr]) rfl
  unfold HdAt Seal.Hd.cells
  rw [app3]
  exact this
def keyS : List UInt8 := [107, 101, 121]
def hdT : Hd := Seal.Hd.sign keyS 3 (zerosB 32) 9
theorem hdT_mac : hdT.mac.length = 32 := by
  have h : hdT.mac = Seal.signB keyS (Hd.saysB ⟨3, zerosB 32, 9, List.replicate 32 0⟩) (Hd.outE ⟨3, zerosB 32, 9, List.replicate 32 0⟩) := rfl
  rw [h]
  exact Seal.signB_length _ _ _
theorem hdT_root : hdT.root.length = 32 := rfl
theorem hdT_right : hdT.rightB keyS = true := by decide +kernel
theorem hdT_not : Hd.rightB keyS ⟨hdT.size, hdT.root, 10, hdT.mac⟩ = false := by decide +kernel
theorem fzT_out : (⟨1, 2, List.replicate 32 0⟩ : Fz).outB = 70 :: 1 :: 1 :: 1 :: 2 :: 1 :: 32 :: zerosB 32 := by decide +kernel
theorem fzT_err : (⟨1, 2, List.replicate 32 0⟩ : Fz).outE = 0 := by decide +kernel

end Go.Proofs.YtcgnjdkennkheaaGreatDoor

namespace Go.Proofs.YtcgnjdkennkheaaGreatDoor
open Go.ChangeShapes Go.WideShapes Go.ChangeAt Go.RowKit
open Seal (Fz Hd St)
section
variable {H : Type} {enc : TypeId × Value → H} {W : World} {base : Nat} {v : Value}
theorem tr_i64 {cs : List Value} (h : Tr enc W 3 cs) : ∃ i : Int, cs = [.int .i64 i] ∧ (-9223372036854775808 ≤ i ∧ i ≤ 9223372036854775807) := by
  obtain ⟨i, e, w⟩ := tr_int Tryz.underlying3 h
  exact ⟨i, e, bounds_i64 w⟩
theorem tr_fz {cs : List Value} (h : Tr enc W 30 cs) : ∃ f : Fz, cs = f.cells ∧ f.fit := by
  have hk : Tryz.prog.cellsOf 30 = 34 := by kernel_rfl
  have hki : Tryz.prog.cellsOf 3 = 1 := by kernel_rfl
  have hks : Tryz.prog.cellsOf 28 = 32 := by kernel_rfl
  obtain ⟨hl, hf⟩ := tr_struct Tryz.underlying30 h
  rw [hk] at hl
  have h0 : Tr enc W 3 ((cs.drop 0).take (Tryz.prog.cellsOf 3)) := hf 0 _ rfl
  have h1 : Tr enc W 3 ((cs.drop 1).take (Tryz.prog.cellsOf 3)) := hf 1 _ rfl
  have h2 : Tr enc W 28 ((cs.drop 2).take (Tryz.prog.cellsOf 28)) := hf 2 _ rfl
  rw [hki] at h0 h1
  rw [hks] at h2
  obtain ⟨i0, e0, w0⟩ := tr_i64 h0
  obtain ⟨i1, e1, w1⟩ := tr_i64 h1
  obtain ⟨s, e2, w2⟩ := tr_sum h2
  have q : cs = (cs.drop 0).take 1 ++ ((cs.drop 1).take 1 ++ (cs.drop 2).take 32) := by
    rw [List.drop_zero, ← List.append_assoc, ← List.take_add, ← List.take_add, List.take_of_length_le (by omega)]
  rw [e0, e1, e2] at q
  exact ⟨⟨i0, i1, s⟩, by rw [q]; simp [Fz.cells], w0, w1, w2⟩
theorem tr_hd {cs : List Value} (h : Tr enc W 32 cs) : ∃ f : Hd, cs = f.cells ∧ f.fit := by
  have hk : Tryz.prog.cellsOf 32 = 66 := by kernel_rfl
  have hki : Tryz.prog.cellsOf 3 = 1 := by kernel_rfl
  have hks : Tryz.prog.cellsOf 28 = 32 := by kernel_rfl
  obtain ⟨hl, hf⟩ := tr_struct Tryz.underlying32 h
  rw [hk] at hl
  have h0 : Tr enc W 3 ((cs.drop 0).take (Tryz.prog.cellsOf 3)) := hf 0 _ rfl
  have h1 : Tr enc W 28 ((cs.drop 1).take (Tryz.prog.cellsOf 28)) := hf 1 _ rfl
  have h2 : Tr enc W 3 ((cs.drop 33).take (Tryz.prog.cellsOf 3)) := hf 2 _ rfl
  have h3 : Tr enc W 28 ((cs.drop 34).take (Tryz.prog.cellsOf 28)) := hf 3 _ rfl
  rw [hki] at h0 h2
  rw [hks] at h1 h3
  obtain ⟨i0, e0, w0⟩ := tr_i64 h0
  obtain ⟨s, e1, w1⟩ := tr_sum h1
  obtain ⟨i2, e2, w2⟩ := tr_i64 h2
  obtain ⟨m, e3, w3⟩ := tr_sum h3
  have q : cs = (cs.drop 0).take 1 ++ ((cs.drop 1).take 32 ++ ((cs.drop 33).take 1 ++ (cs.drop 34).take 32)) := by
    rw [List.drop_zero, ← List.append_assoc, ← List.take_add, ← List.append_assoc, ← List.take_add, ← List.take_add, List.take_of_length_le (by omega)]
  rw [e0, e1, e2, e3] at q
  exact ⟨⟨i0, s, i2, m⟩, by rw [q]; simp [Hd.cells], w0, w2, w1, w3⟩
theorem okWide_agg {t : TypeId} {fs : Array Field} (hu : Tryz.prog.underlying t = some (.struct fs)) (h : Value.okWide Tryz.prog W .any base t v) : ∃ cs, v = .agg cs := by
  simp only [Value.okWide, hu] at h
  obtain ⟨cs, h1, _⟩ := h
  exact ⟨cs, h1⟩
theorem agg_is {cs : Array Value} {l : List Value} (h : (Value.agg cs).cells.toList = l) : Value.agg cs = .agg l.toArray := by
  simp only [Value.cells] at h
  rw [← h]
theorem op_fz (hv : Value.okWide Tryz.prog W .any base 30 v) (h : Tr enc W 30 v.cells.toList) : ∃ f : Fz, v = f.v ∧ f.fit := by
  obtain ⟨f, hr, hq⟩ := tr_fz h
  obtain ⟨cs, rfl⟩ := okWide_agg Tryz.underlying30 hv
  exact ⟨f, agg_is hr, hq⟩
theorem op_hd (hv : Value.okWide Tryz.prog W .any base 32 v) (h : Tr enc W 32 v.cells.toList) : ∃ f : Hd, v = f.v ∧ f.fit := by
  obtain ⟨f, hr, hq⟩ := tr_hd h
  obtain ⟨cs, rfl⟩ := okWide_agg Tryz.underlying32 hv
  exact ⟨f, agg_is hr, hq⟩
theorem tr_two {t e : TypeId} {n k : Nat} {cs : List Value} (hu : Tryz.prog.underlying t = some (.array 2 e)) (hk : Tryz.prog.cellsOf t = k + k) (hke : Tryz.prog.cellsOf e = k) (h : Tr enc W t cs) : ∃ x y, cs = x ++ y ∧ Tr enc W e x ∧ Tr enc W e y := by
  obtain ⟨hl, hel⟩ := tr_array hu h
  rw [hk] at hl
  rw [hke] at hel
  have h0 := hel 0 (by omega)
  have h1 := hel 1 (by omega)
  rw [Nat.zero_mul, List.drop_zero] at h0
  rw [Nat.one_mul] at h1
  refine ⟨_, _, ?_, h0, h1⟩
  rw [← List.take_add, List.take_of_length_le (by omega)]
end
end Go.Proofs.YtcgnjdkennkheaaGreatDoor
