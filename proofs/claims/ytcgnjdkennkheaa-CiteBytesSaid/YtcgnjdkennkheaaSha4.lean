/-
  The walk of sha.blocks.
-/
import Derived.Test.YtcgnjdkennkheaaShaP
set_option linter.unusedVariables false
set_option maxRecDepth 100000
set_option linter.unusedSimpArgs false
namespace Go.Proofs.Ytcgnjdkennkheaa
open Go.RowKit
attribute [local go_sem] bs_size bs_toList2 bs_append bs_extract_end bs_extract_begin bs_get wrap64_b grow_cell grow_frozen

theorem res_ct {P : Program} {fn : Func} {p u : Tmp} {ty : TypeId} (h : fn.results = #[.cell p ty, .tmp u]) (tmps : Array Value) (w : World) (g : Nat) (t : TypeId) (cs : Array Value) (d : TypeDesc)
    (hp : tmps.getD p undef = .pointer (some ⟨g, 0, none⟩)) (hg : Blk w g t cs)
    (hu : P.underlying ty = some d) (hd : (match d with | .struct _ | .array _ _ => true | _ => false) = true) (hi : (P.info? ty).map (·.size) = some cs.size) :
    (results fn tmps).run P w = .ok (.tuple #[.agg cs, tmps.getD u undef]) w := by
  have hp' : tmps[p]?.getD undef = .pointer (some ⟨g, 0, none⟩) := by simpa using hp
  simp [results, h, hp', asAddr, run_loadVar_row w g t ty cs (0, 0) d hg hu hd hi]
theorem word_or (x : Int) (c : UInt8) (h0 : 0 ≤ x) (h1 : x < 16777216) : bits BinOp.or IntKind.u32 (x * 256 % 4294967296) ((c.toNat : Int) % 4294967296) = x * 256 + (c.toNat : Int) := by
  obtain ⟨n, rfl⟩ := Int.eq_ofNat_of_zero_le h0
  have hc : c.toNat < 2 ^ 8 := c.toNat_lt
  have e1 : ((n : Int) * 256 % 4294967296) = ((n * 256 : Nat) : Int) := by omega
  have e2 : ((c.toNat : Int) % 4294967296) = ((c.toNat : Nat) : Int) := by omega
  rw [e1, e2, u32_or_nat (n * 256) c.toNat (by omega) (by omega)]
  have := Nat.two_pow_add_eq_or_of_lt hc n
  rw [Nat.mul_comm (2 ^ 8) n] at this
  rw [← this]
  omega
def strN : Value → Nat
  | .string b => b.size
  | _ => 0

end Go.Proofs.Ytcgnjdkennkheaa
